/- wire.In of the program: Open where there are offsets, Offsets, Later. -/
/- wire.In of the program: Offsets. -/
/- What the program's readers of structs with parts of no size keep while they go through the fields. -/
import Derived.Test.YtihelknkcomjpaaDoorJIn2
import Derived.Test.YtihelknkcomjpaaDoorJOg3
import Derived.Test.YtihelknkcomjpaaDoorJRqS
set_option linter.unusedVariables false
set_option linter.unusedSimpArgs false
set_option linter.unnecessarySimpa false
namespace Go.Proofs.YtihelknkcomjpaaDoor
open Go.RowKit BigFrame
set_option maxRecDepth 100000
set_option maxHeartbeats 4000000 in
theorem openO_any (l : List Int) (va : Option Addr) (c hd m : Nat) (w : World) (hl : Row w va .u8 l) (hc : l.length ≤ c) (hn : va = none → c = 0) (hlow : ∀ ad, va = some ad → ad.block < w.heap.size) (hh : hd ≤ 1000000) (hm : 0 < m) (hfew : l.length ≤ 70368744177664) :
    Calls Tryd.prog 49 #[.slice va l.length c, .int .i64 (hd : Int), .int .i64 (m : Int)] w fun e w' => e = .returned (.pointer (some ⟨w.heap.size, 0, none⟩)) ∧ InW w.heap.size l va c 0 (if hd ≤ l.length then 0 else 4) w' ∧ Below w.heap.size w w' := by
  have hl' := Lib.hid hl
  have hlow' := Lib.hid hlow
  clear hl hlow
  have hIn : ∀ (err : Nat) (W : World), W.heap[w.heap.size]? = some (.cells (inC va l.length c 0 err) 104 (0, 0)) → Below w.heap.size w W → InW w.heap.size l va c 0 err W := fun err W h1 h2 => ⟨h1, hl'.out.later h2, hlow'.out, hc, hn, hfew⟩
  have hIn' := Lib.hid hIn
  clear hIn
  have b3 : ((m : Int) == 0) = false := by simp; omega
  go_enter Tryd.func49, Tryd.ntmps49
  by_cases c1 : hd ≤ l.length
  · have b1 : decide ((l.length : Int) < (hd : Int)) = false := by simp; omega
    rw [if_pos c1]
    go_wp2_with (
      ((with_reducible refine at_build 104 ?_); go_loud (refine wpList_value (by rfl) _ (run_build _ _ rfl _ (built_in _ _ _ _)) ?_)))
    have hB := ((Below.refl w.heap.size w).alloc (Nat.le_refl _) (.cells (inC va l.length c 0 0) 104))
    exact ret_t1 rfl _ rfl rfl ⟨rfl, hIn'.out 0 _ (heap_new _ _ _ _ rfl) hB, hB⟩
  · have b1 : decide ((l.length : Int) < (hd : Int)) = true := by simp; omega
    rw [if_neg c1]
    go_wp2_with (first
      | ((with_reducible refine at_build 104 ?_); go_loud (refine wpList_value (by rfl) _ (run_build _ _ rfl _ (built_in _ _ _ _)) ?_))
      | ((with_reducible refine at_store 36 ?_); go_loud (refine wpList_plain rfl fun K hK => wp_store1 36 _ _ rfl w.heap.size 4 rfl _ rfl rfl sz_errno _ _ (heap_new _ _ _ _ rfl) (by simp [inD]) (fun W2 hC2 hx2 => hK _ _ ?_)); clear hK K))
    have hB := hx2.below ((Below.refl w.heap.size w).alloc (Nat.le_refl _) _) (Nat.le_refl _) (by rw [World.size_alloc]; omega)
    exact ret_t1 rfl _ rfl rfl ⟨rfl, hIn'.out 4 W2 hC2 hB, hB⟩
/-- An offset that stands at p. -/
def offL (l : List Int) (p : Nat) : Nat := (rdI (fun j => l.getD (p + j) 0) 4).toNat
theorem offL_is {l : List Int} (h : ∀ x ∈ l, CK.ok .u8 x) (p : Nat) : ((offL l p : Nat) : Int) = rdI (fun j => l.getD (p + j) 0) 4 := by
  have := rdI_lt (f := fun j => l.getD (p + j) 0) (fun j => list_isB h (p + j)) 4
  unfold offL
  omega
theorem offL_lt {l : List Int} (h : ∀ x ∈ l, CK.ok .u8 x) (p : Nat) : offL l p < 4294967296 := by
  have h1 := (rdI_lt (f := fun j => l.getD (p + j) 0) (fun j => list_isB h (p + j)) 4).2
  have e : (2 : Int) ^ (8 * 4) = 4294967296 := rfl
  rw [e] at h1
  have := offL_is h p
  omega
theorem or_stepI {x y : Int} {s : Nat} (hs : s ≤ 24) (hx : 0 ≤ x ∧ x < 2 ^ s) (hy : IsB y) : bits .or .i64 x (IntKind.i64.wrap (y * 2 ^ s)) = x + y * 2 ^ s := by
  unfold IsB at hy
  have hp : (0 : Int) < 2 ^ s := Int.pow_pos (by decide)
  have h56 : (2 : Int) ^ s ≤ 2 ^ 24 := by
    have : 2 ^ s ≤ 2 ^ 24 := Nat.pow_le_pow_right (by decide) hs
    exact_mod_cast this
  have h1 : y * 2 ^ s ≤ 255 * 2 ^ s := Int.mul_le_mul_of_nonneg_right hy.2 (Int.le_of_lt hp)
  have h2 : 0 ≤ y * 2 ^ s := Int.mul_nonneg hy.1 (Int.le_of_lt hp)
  have e56 : (2 : Int) ^ 24 = 16777216 := rfl
  have hw : IntKind.i64.wrap (y * 2 ^ s) = y * 2 ^ s := by rw [IntKind.wrap_i64]; omega
  have e64 : (2 : Int) ^ 63 = 9223372036854775808 := rfl
  rw [hw, or_comm_i, bits_join .i64 63 (by decide) (fun n a b => show IntKind.i64.wrap n = n by rw [IntKind.wrap_i64]; omega) s (y * 2 ^ s) x h2 (Int.mul_emod_left _ _) (by omega) hx.1 hx.2 (by omega)]
  omega
/-- The In, with its offsets. -/
structure InO (offs : List Nat) (nx : Nat) (i : Nat) (l : List Int) (va : Option Addr) (c at' err : Nat) (w : World) : Prop where
  ex : ∃ u, InG u nx i l va c at' err w ∧ w.ownsRow (i + 1) 3 1 u offs.length (offs.map fun n : Nat => Value.int .i64 (n : Int))
section
variable {offs : List Nat} {nx i : Nat} {l : List Int} {va : Option Addr} {c at' err : Nat} {w w' : World}
theorem InO.size (h : InO offs nx i l va c at' err w) : i + 1 ≤ w.heap.size := by
  obtain ⟨u, h1, _⟩ := h.ex
  exact h1.size
theorem InO.of (h : InW i l va c at' err w) : InO [] 0 i l va c at' err w := ⟨_, h, ⟨rfl, Or.inl ⟨rfl, rfl⟩⟩⟩
theorem InO.later (h : InO offs nx i l va c at' err w) (hb : Below w.heap.size w w') : InO offs nx i l va c at' err w' := by
  obtain ⟨u, h1, h2⟩ := h.ex
  exact ⟨u, h1.later (hb.mono h1.size), own_later h2 hb⟩
theorem InO.bytes (h : InO offs nx i l va c at' err w) (n : Nat) (hn0 : 0 < n) (hn : n ≤ 4294967296) (hat : err = 0 → at' + n ≤ l.length) :
    Calls Tryd.prog 50 #[.pointer (some ⟨i, 0, none⟩), .int .i64 (n : Int)] w fun e w' => (∃ va' c', e = .returned (.slice va' n c') ∧ n ≤ c' ∧ (va' = none → c' = 0) ∧ Row w' va' .u8 (inB l at' err n)) ∧ InO offs nx i l va c (if err = 0 then at' + n else at') err w' ∧ Apart i w w' := by
  obtain ⟨u, h1, h2⟩ := h.ex
  exact (in_bytesA i l va c at' err n w h1 hn0 hn hat).mono fun _ _ ⟨h3, h4, h5⟩ => ⟨h3, ⟨u, h4, own_apart h2 h5 (Nat.lt_succ_self i)⟩, h5⟩
theorem InO.fail (h : InO offs nx i l va c at' err w) (er : Nat) :
    Calls Tryd.prog 52 #[.pointer (some ⟨i, 0, none⟩), .int .i64 (er : Int)] w fun e w' => e = .returned (.tuple #[]) ∧ InO offs nx i l va c at' (if err = 0 then er else err) w' ∧ Apart i w w' := by
  obtain ⟨u, h1, h2⟩ := h.ex
  exact (in_failA i l va c at' err er w h1).mono fun _ _ ⟨h3, h4, h5⟩ => ⟨h3, ⟨u, h4, own_apart h2 h5 (Nat.lt_succ_self i)⟩, h5⟩
theorem InO.errno (h : InO offs nx i l va c at' err w) : w.cell? ⟨i, 4, none⟩ = some (.int .i64 (err : Int)) := by
  obtain ⟨u, h1, _⟩ := h.ex
  exact cell_in h1.cells 4
theorem InO.cell (h : InO offs nx i l va c at' err w) : ∃ u, w.heap[i]? = some (.cells (inD u nx va l.length c at' err) 104 (0, 0)) := by
  obtain ⟨u, h1, _⟩ := h.ex
  exact ⟨u, h1.cells⟩
end
/-! Later. -/
set_option maxHeartbeats 4000000 in
theorem in_later0 {u : Value} {nx : Nat} (i : Nat) (l : List Int) (va : Option Addr) (c at' err : Nat) (w : World) (h : InG u nx i l va c at' err w) (he : err ≠ 0) :
    Calls Tryd.prog 75 #[.pointer (some ⟨i, 0, none⟩)] w fun e w' => e = .returned (.slice none 0 0) ∧ w = w' := by
  have h' := Lib.hid h
  clear h
  have he' : ((err : Int) != 0) = true := by simp [he]
  go_enter Tryd.func75, Tryd.ntmps75
  go_wp2_with (
    ((with_reducible refine at_load 36 ?_); go_loud (refine wpList_value (by rfl) _ (run_load_cell _ 36 _ (by rfl) ⟨i, 4, none⟩ (by rfl) (.int .i64 (err : Int)) (cell_in h'.out.cells 4) _ Tryd.underlying36 rfl) ?_)))
  exact ret_t1 rfl _ rfl rfl ⟨rfl, rfl⟩
theorem run_slice_mid0 {P : Program} {ρ : Operand → Value} {o : Oper} (w : World) (t e : TypeId) (x y z : Operand) (ho : o.op = .slice t x (some y) (some z) none) (hu : P.underlying t = some (.slice e)) (sz : Nat) (hsz : (P.info? e).map (·.size) = some sz) (b off len cap lo hi : Nat) (hx : ρ x = .slice (some ⟨b, off, none⟩) len cap) (hy : ρ y = .int .i64 (lo : Int)) (hz : ρ z = .int .i64 (hi : Int)) (h1 : lo ≤ hi) (h2 : hi ≤ cap) :
    (execOp ρ o).run P w = .ok (.value (.slice (some ⟨b, if cap = lo then off else off + lo * sz, none⟩) (hi - lo) (cap - lo))) w := by
  have e1 : (0 : Int) ≤ (lo : Int) := by omega
  have e2 : (lo : Int) ≤ (hi : Int) := by omega
  have e3 : (0 : Int) ≤ (hi : Int) := by omega
  have e4 : (hi : Int) ≤ (cap : Int) := by omega
  unfold execOp
  simp only [ho, hx, hy, hz, Option.map_some, Option.map_none, Instr.sliceAt, Instr.slice, Instr.sliceBounds, Instr.sliceBound, asIntOf, Sem.run_bind, Sem.run_pure, Result.andThen_ok, run_underlying hu, size_of hsz, if_pos (And.intro e1 e2), if_pos (And.intro e3 e4), Int.toNat_natCast, Addr.add_mid]
  by_cases c : cap = lo
  · simp only [if_pos c]
  · simp only [if_neg c, Option.map_some]
theorem row_mid0 {w : World} {l : List Int} {b o c : Nat} (h : Row w (some ⟨b, o, none⟩) .u8 l) (lo hi : Nat) (h1 : lo ≤ hi) (h2 : hi ≤ l.length) (hc : l.length ≤ c) : Row w (some ⟨b, if c = lo then o else o + lo * 1, none⟩) .u8 ((l.drop lo).take (hi - lo)) := by
  by_cases e : c = lo
  · have e0 : hi - lo = 0 := by omega
    rw [e0, List.take_zero]
    exact ⟨fun j hj => absurd hj (by simp), fun m hm => absurd hm (by simp)⟩
  · rw [if_neg e, Nat.mul_one]
    exact row_mid h lo (hi - lo) (by omega)
set_option maxHeartbeats 8000000 in
theorem in_later {offs : List Nat} {nx : Nat} (i : Nat) (l : List Int) (va : Option Addr) (c at' : Nat) (w : World) (H : InO offs nx i l va c at' 0 w) (hnx : nx + 1 < offs.length) (hno : offs.length ≤ 1000) (a b : Nat) (ha : offs.getD nx 0 = a) (hb : offs.getD (nx + 1) 0 = b) (hab : a ≤ b) (hbl : b ≤ l.length) (hpos : 0 < l.length) (hat : at' ≤ 1000000) :
    Calls Tryd.prog 75 #[.pointer (some ⟨i, 0, none⟩)] w fun e w' => (∃ bb o c', e = .returned (.slice (some ⟨bb, o, none⟩) (b - a) c') ∧ b - a ≤ c' ∧ bb < i ∧ Row w' (some ⟨bb, o, none⟩) .u8 ((l.drop a).take (b - a))) ∧ InO offs (nx + 1) i l va c (at' + 4) 0 w' ∧ Apart i w w' := by
  have hz := H.size
  obtain ⟨u, h, hu⟩ := H.ex
  obtain ⟨bb, bo, hva, _⟩ := h.row.cell 0 hpos
  subst hva
  have hbbi : bb < i := h.low _ rfl
  obtain ⟨g, cap, cur, rfl, hgi, hgc, hg1, hg2⟩ : ∃ g cap cur, u = .slice (some ⟨g, 0, none⟩) offs.length cap ∧ i + 1 ≤ g ∧ w.heap[g]? = some (.cells cur 3 (0, 0)) ∧ (∀ j, j < offs.length → w.cell? ⟨g, j, none⟩ = some (.int .i64 ((offs.getD j 0 : Nat) : Int))) ∧ True := by
    rcases hu.2 with ⟨_, h2⟩ | ⟨g, cap, cur, h2, h3, h4, _⟩
    · omega
    · refine ⟨g, cap, cur, h2, h3, h4, fun j hj => ?_, trivial⟩
      subst h2
      rw [hu.cellAt j (by omega)]
      simp [List.getD, hj]
  have hc1 := hg1 nx (by omega)
  have hc2 := hg1 (nx + 1) (by omega)
  rw [ha] at hc1
  rw [hb] at hc2
  have hcap := h.cap
  have hrow := Lib.hid h.row
  have hu' := Lib.hid hu
  have h' := Lib.hid h
  clear hg1 hg2 ha hb H h hu
  have hw1 : IntKind.i64.wrap ((at' : Int) + 4) = ((at' + 4 : Nat) : Int) := by rw [IntKind.wrap_i64]; omega
  have hw2 : IntKind.i64.wrap ((nx : Int) + 1) = ((nx + 1 : Nat) : Int) := by rw [IntKind.wrap_i64]; omega
  have hw3 : IntKind.i64.wrap (((nx + 1 : Nat) : Int) - 1) = (nx : Int) := by rw [IntKind.wrap_i64]; omega
  have hw4 : IntKind.i64.wrap (nx : Int) = (nx : Int) := by rw [IntKind.wrap_i64]; omega
  go_enter Tryd.func75, Tryd.ntmps75
  go_wp2_with (first
    | ((with_reducible refine at_load 36 ?_); go_loud (refine wpList_value (by rfl) _ (run_load_cell _ 36 _ (by rfl) ⟨i, 4, none⟩ (by rfl) (.int .i64 0) (cell_in h'.out.cells 4) _ Tryd.underlying36 rfl) ?_))
    | ((with_reducible refine at_load 3 ?_); refine at_ldaddr 3 i 1 rfl ?_; go_loud (refine wpList_value (by rfl) _ (run_load_cell _ 3 _ (by rfl) ⟨i, 1, none⟩ (by rfl) (.int .i64 (at' : Int)) (cell_in h'.out.cells 1) _ Tryd.underlying3 rfl) ?_))
    | ((with_reducible refine at_store 3 ?_); refine at_staddr 3 i 1 rfl ?_; go_loud (refine wpList_plain rfl fun K hK => wp_store1 3 _ _ rfl i 1 rfl (.int .i64 ((at' + 4 : Nat) : Int)) rfl rfl sz_i64 _ _ h'.out.cells (by simp [inD]) (fun W1 hC1 hx1 => hK _ _ ?_)); clear hK K
       have hC1' := Lib.hid hC1
       clear hC1)
    | ((with_reducible refine at_load 3 ?_); refine at_ldaddr 3 i 3 rfl ?_; go_loud (refine wpList_value (by rfl) _ (run_load_cell _ 3 _ (by rfl) ⟨i, 3, none⟩ (by rfl) (.int .i64 (nx : Int)) (cell_in hC1'.out 3) _ Tryd.underlying3 rfl) ?_))
    | ((with_reducible refine at_store 3 ?_); refine at_staddr 3 i 3 rfl ?_; go_loud (refine wpList_plain rfl fun K hK => wp_store1 3 _ _ rfl i 3 rfl (.int .i64 ((nx + 1 : Nat) : Int)) rfl rfl sz_i64 _ _ hC1'.out (by simp [inD]) (fun W2 hC2 hx2 => hK _ _ ?_)); clear hK K
       have hC2' := Lib.hid hC2
       clear hC2))
  have hC3 : W2.heap[i]? = some (.cells (inD (.slice (some ⟨g, 0, none⟩) offs.length cap) (nx + 1) (some ⟨bb, bo, none⟩) l.length c (at' + 4) 0) 104 (0, 0)) := hC2'.out
  have hA : Apart i w W2 := hx1.trans hx2
  have hgl := block_lt hgc
  have d1 : W2.cell? ⟨g, nx, none⟩ = some (.int .i64 (a : Int)) := (hA.cell (p := ⟨g, nx, none⟩) hgl (show g ≠ i by omega)).trans hc1
  have d2 : W2.cell? ⟨g, nx + 1, none⟩ = some (.int .i64 (b : Int)) := (hA.cell (p := ⟨g, nx + 1, none⟩) hgl (show g ≠ i by omega)).trans hc2
  clear hC1' hC2' hx1 hx2 W1
  rename_i K hK
  refine wp_region_held (S := fun w' => w'.heap[i]? = some (.cells (inD (.slice (some ⟨g, 0, none⟩) offs.length cap) (nx + 1) (some ⟨bb, bo, none⟩) l.length c (at' + 4) 0) 104 (0, 0)) ∧ w'.cell? ⟨g, nx, none⟩ = some (.int .i64 (a : Int)) ∧ w'.cell? ⟨g, nx + 1, none⟩ = some (.int .i64 (b : Int))) (by kernel_rfl) ?_
  have hS : ({ W2 with drawn := W2.drawn + 1 } : World).heap[i]? = some (.cells (inD (.slice (some ⟨g, 0, none⟩) offs.length cap) (nx + 1) (some ⟨bb, bo, none⟩) l.length c (at' + 4) 0) 104 (0, 0)) ∧ ({ W2 with drawn := W2.drawn + 1 } : World).cell? ⟨g, nx, none⟩ = some (.int .i64 (a : Int)) ∧ ({ W2 with drawn := W2.drawn + 1 } : World).cell? ⟨g, nx + 1, none⟩ = some (.int .i64 (b : Int)) := ⟨hC3, d1, d2⟩
  refine takeL (i := 0) (v := (.pointer (some ⟨i, 0, none⟩))) rfl (by kernel_rfl) (by kernel_rfl) (by kernel_rfl) (fun _ _ _ h => h) rfl (by assumption) (fun w' hS' => by go_simp) ?_
  simp only [Act.put, List.setIfInBounds_toArray, List.set_cons_zero, List.set_cons_succ]
  refine takeL (i := 4) (v := (.pointer (some ⟨i, 0, none⟩))) rfl (by kernel_rfl) (by kernel_rfl) (by kernel_rfl) (fun _ _ _ h => h) rfl (by assumption) (fun w' hS' => by go_simp) ?_
  simp only [Act.put, List.setIfInBounds_toArray, List.set_cons_zero, List.set_cons_succ]
  refine takeL (i := 8) (v := (.pointer (some ⟨i, 0, none⟩))) rfl (by kernel_rfl) (by kernel_rfl) (by kernel_rfl) (fun _ _ _ h => h) rfl (by assumption) (fun w' hS' => by go_simp) ?_
  simp only [Act.put, List.setIfInBounds_toArray, List.set_cons_zero, List.set_cons_succ]
  refine takeL (i := 15) (v := (.pointer (some ⟨i, 0, none⟩))) rfl (by kernel_rfl) (by kernel_rfl) (by kernel_rfl) (fun _ _ _ h => h) rfl (by assumption) (fun w' hS' => by go_simp) ?_
  simp only [Act.put, List.setIfInBounds_toArray, List.set_cons_zero, List.set_cons_succ]
  refine takeL (i := 19) (v := (.pointer (some ⟨i, 0, none⟩))) rfl (by kernel_rfl) (by kernel_rfl) (by kernel_rfl) (fun _ _ _ h => h) rfl (by assumption) (fun w' hS' => by go_simp) ?_
  simp only [Act.put, List.setIfInBounds_toArray, List.set_cons_zero, List.set_cons_succ]
  refine takeL (i := 1) (v := (.pointer (some ⟨i, 0, none⟩))) rfl (by kernel_rfl) (by kernel_rfl) (by kernel_rfl) (fun _ _ _ h => h) rfl (by assumption) (fun w' hS' => by go_simp) ?_
  simp only [Act.put, List.setIfInBounds_toArray, List.set_cons_zero, List.set_cons_succ]
  refine takeL (i := 5) (v := (.pointer (some ⟨i, 0, none⟩))) rfl (by kernel_rfl) (by kernel_rfl) (by kernel_rfl) (fun _ _ _ h => h) rfl (by assumption) (fun w' hS' => by go_simp) ?_
  simp only [Act.put, List.setIfInBounds_toArray, List.set_cons_zero, List.set_cons_succ]
  refine takeL (i := 9) (v := (.pointer (some ⟨i, 0, none⟩))) rfl (by kernel_rfl) (by kernel_rfl) (by kernel_rfl) (fun _ _ _ h => h) rfl (by assumption) (fun w' hS' => by go_simp) ?_
  simp only [Act.put, List.setIfInBounds_toArray, List.set_cons_zero, List.set_cons_succ]
  refine takeL (i := 16) (v := (.pointer (some ⟨i, 0, none⟩))) rfl (by kernel_rfl) (by kernel_rfl) (by kernel_rfl) (fun _ _ _ h => h) rfl (by assumption) (fun w' hS' => by go_simp) ?_
  simp only [Act.put, List.setIfInBounds_toArray, List.set_cons_zero, List.set_cons_succ]
  refine takeL (i := 20) (v := (.pointer (some ⟨i, 0, none⟩))) rfl (by kernel_rfl) (by kernel_rfl) (by kernel_rfl) (fun _ _ _ h => h) rfl (by assumption) (fun w' hS' => by go_simp) ?_
  simp only [Act.put, List.setIfInBounds_toArray, List.set_cons_zero, List.set_cons_succ]
  refine takeL (i := 2) (v := (.pointer (some ⟨i, 0, none⟩))) rfl (by kernel_rfl) (by kernel_rfl) (by kernel_rfl) (fun _ _ _ h => h) rfl (by assumption) (fun w' hS' => by go_simp) ?_
  simp only [Act.put, List.setIfInBounds_toArray, List.set_cons_zero, List.set_cons_succ]
  refine takeL (i := 6) (v := (.pointer (some ⟨i, 2, none⟩))) rfl (by kernel_rfl) (by kernel_rfl) (by kernel_rfl) (fun _ _ _ h => h) rfl (by assumption) (fun w' hS' => by go_simp) ?_
  simp only [Act.put, List.setIfInBounds_toArray, List.set_cons_zero, List.set_cons_succ]
  refine takeL (i := 10) (v := (.pointer (some ⟨i, 3, none⟩))) rfl (by kernel_rfl) (by kernel_rfl) (by kernel_rfl) (fun _ _ _ h => h) rfl (by assumption) (fun w' hS' => by go_simp) ?_
  simp only [Act.put, List.setIfInBounds_toArray, List.set_cons_zero, List.set_cons_succ]
  refine takeL (i := 17) (v := (.pointer (some ⟨i, 2, none⟩))) rfl (by kernel_rfl) (by kernel_rfl) (by kernel_rfl) (fun _ _ _ h => h) rfl (by assumption) (fun w' hS' => by go_simp) ?_
  simp only [Act.put, List.setIfInBounds_toArray, List.set_cons_zero, List.set_cons_succ]
  refine takeL (i := 21) (v := (.pointer (some ⟨i, 3, none⟩))) rfl (by kernel_rfl) (by kernel_rfl) (by kernel_rfl) (fun _ _ _ h => h) rfl (by assumption) (fun w' hS' => by go_simp) ?_
  simp only [Act.put, List.setIfInBounds_toArray, List.set_cons_zero, List.set_cons_succ]
  refine takeL (i := 3) (v := (.slice (some ⟨bb, bo, none⟩) l.length c)) rfl (by kernel_rfl) (by kernel_rfl) (by kernel_rfl) (fun _ _ _ h => h) rfl (by assumption) (fun w' hS' => run_load_cell _ 34 _ (by rfl) ⟨i, 0, none⟩ (by rfl) _ (cell_in hS'.1 0) _ Tryd.underlying34 rfl) ?_
  simp only [Act.put, List.setIfInBounds_toArray, List.set_cons_zero, List.set_cons_succ]
  refine takeL (i := 7) (v := (.slice (some ⟨g, 0, none⟩) offs.length cap)) rfl (by kernel_rfl) (by kernel_rfl) (by kernel_rfl) (fun _ _ _ h => h) rfl (by assumption) (fun w' hS' => run_load_cell _ 82 _ (by rfl) ⟨i, 2, none⟩ (by rfl) _ (cell_in hS'.1 2) _ Tryd.underlying82 rfl) ?_
  simp only [Act.put, List.setIfInBounds_toArray, List.set_cons_zero, List.set_cons_succ]
  refine takeL (i := 11) (v := (.int .i64 ((nx + 1 : Nat) : Int))) rfl (by kernel_rfl) (by kernel_rfl) (by kernel_rfl) (fun _ _ _ h => h) rfl (by assumption) (fun w' hS' => run_load_cell _ 3 _ (by rfl) ⟨i, 3, none⟩ (by rfl) _ (cell_in hS'.1 3) _ Tryd.underlying3 rfl) ?_
  simp only [Act.put, List.setIfInBounds_toArray, List.set_cons_zero, List.set_cons_succ]
  refine takeL (i := 18) (v := (.slice (some ⟨g, 0, none⟩) offs.length cap)) rfl (by kernel_rfl) (by kernel_rfl) (by kernel_rfl) (fun _ _ _ h => h) rfl (by assumption) (fun w' hS' => run_load_cell _ 82 _ (by rfl) ⟨i, 2, none⟩ (by rfl) _ (cell_in hS'.1 2) _ Tryd.underlying82 rfl) ?_
  simp only [Act.put, List.setIfInBounds_toArray, List.set_cons_zero, List.set_cons_succ]
  refine takeL (i := 22) (v := (.int .i64 ((nx + 1 : Nat) : Int))) rfl (by kernel_rfl) (by kernel_rfl) (by kernel_rfl) (fun _ _ _ h => h) rfl (by assumption) (fun w' hS' => run_load_cell _ 3 _ (by rfl) ⟨i, 3, none⟩ (by rfl) _ (cell_in hS'.1 3) _ Tryd.underlying3 rfl) ?_
  simp only [Act.put, List.setIfInBounds_toArray, List.set_cons_zero, List.set_cons_succ]
  refine takeL (i := 12) (v := (.int .i64 (nx : Int))) rfl (by kernel_rfl) (by kernel_rfl) (by kernel_rfl) (fun _ _ _ h => h) rfl (by assumption) (fun w' hS' => by go_simp) ?_
  simp only [Act.put, List.setIfInBounds_toArray, List.set_cons_zero, List.set_cons_succ]
  refine takeL (i := 13) (v := (.pointer (some ⟨g, nx, none⟩))) rfl (by kernel_rfl) (by kernel_rfl) (by kernel_rfl) (fun _ _ _ h => h) rfl (by assumption) (fun w' hS' => run_index_slice _ 82 3 _ _ (by rfl) Tryd.underlying82 1 sz_int g 0 offs.length cap (by rfl) .i64 nx (by rfl) (by omega) nx (by omega)) ?_
  simp only [Act.put, List.setIfInBounds_toArray, List.set_cons_zero, List.set_cons_succ]
  refine takeL (i := 23) (v := (.pointer (some ⟨g, nx + 1, none⟩))) rfl (by kernel_rfl) (by kernel_rfl) (by kernel_rfl) (fun _ _ _ h => h) rfl (by assumption) (fun w' hS' => run_index_slice _ 82 3 _ _ (by rfl) Tryd.underlying82 1 sz_int g 0 offs.length cap (by rfl) .i64 (nx + 1) (by rfl) (by omega) (nx + 1) (by omega)) ?_
  simp only [Act.put, List.setIfInBounds_toArray, List.set_cons_zero, List.set_cons_succ]
  refine takeL (i := 14) (v := (.int .i64 (a : Int))) rfl (by kernel_rfl) (by kernel_rfl) (by kernel_rfl) (fun _ _ _ h => h) rfl (by assumption) (fun w' hS' => run_load_cell _ 3 _ (by rfl) ⟨g, nx, none⟩ (by rfl) _ hS'.2.1 _ Tryd.underlying3 rfl) ?_
  simp only [Act.put, List.setIfInBounds_toArray, List.set_cons_zero, List.set_cons_succ]
  refine takeL (i := 24) (v := (.int .i64 (b : Int))) rfl (by kernel_rfl) (by kernel_rfl) (by kernel_rfl) (fun _ _ _ h => h) rfl (by assumption) (fun w' hS' => run_load_cell _ 3 _ (by rfl) ⟨g, nx + 1, none⟩ (by rfl) _ hS'.2.2 _ Tryd.underlying3 rfl) ?_
  simp only [Act.put, List.setIfInBounds_toArray, List.set_cons_zero, List.set_cons_succ]
  refine takeL (i := 25) (v := (.slice (some ⟨bb, if c = a then bo else bo + a * 1, none⟩) (b - a) (c - a))) rfl (by kernel_rfl) (by kernel_rfl) (by kernel_rfl) (fun _ _ _ h => h) rfl (by assumption) (fun w' hS' => run_slice_mid0 (P := Tryd.prog) w' 34 5 (.tmp 25) (.tmp 36) (.tmp 46) (by rfl) Tryd.underlying34 1 sz_u8 bb bo l.length c a b (by rfl) (by rfl) (by rfl) hab (by omega)) ?_
  simp only [Act.put, List.setIfInBounds_toArray, List.set_cons_zero, List.set_cons_succ]
  refine takeL (i := 26) (v := (.slice (some ⟨bb, if c = a then bo else bo + a * 1, none⟩) (b - a) (c - a))) rfl (by kernel_rfl) (by kernel_rfl) (by kernel_rfl) (fun _ _ _ h => h) rfl (by assumption) (fun w' hS' => by go_simp) ?_
  simp only [Act.put, List.setIfInBounds_toArray, List.set_cons_zero, List.set_cons_succ]
  refine wpAnyH_done (by kernel_rfl) ?_ _
  refine hK _ _ ?_
  clear hK K
  have hA2 : Apart i w { W2 with drawn := W2.drawn + 1 } := hA.trans (Apart.begin i W2)
  have hI : InG (.slice (some ⟨g, 0, none⟩) offs.length cap) (nx + 1) i l (some ⟨bb, bo, none⟩) c (at' + 4) 0 { W2 with drawn := W2.drawn + 1 } := ⟨hC3, ⟨fun j hj => by
    obtain ⟨b2, o2, e, hc⟩ := hrow.out.cell j hj
    cases e
    exact ⟨bb, bo, rfl, (hA2.cell (p := ⟨bb, bo + j, none⟩) (show bb < w.heap.size by omega) (show bb ≠ i by omega)).trans hc⟩, hrow.out.ok⟩, h'.out.low, hcap, h'.out.nil, h'.out.few⟩
  have hO : InO offs (nx + 1) i l (some ⟨bb, bo, none⟩) c (at' + 4) 0 { W2 with drawn := W2.drawn + 1 } := ⟨_, hI, own_apart hu'.out hA2 (Nat.lt_succ_self i)⟩
  refine gen_world (fun W3 => InO offs (nx + 1) i l (some ⟨bb, bo, none⟩) c (at' + 4) 0 W3 ∧ Row W3 (some ⟨bb, if c = a then bo else bo + a * 1, none⟩) .u8 ((l.drop a).take (b - a)) ∧ Apart i w W3) ⟨hO, row_mid0 hI.row a b hab hbl hcap, hA2⟩ ?_
  rintro W3 ⟨q1, q2, q3⟩
  clear hI hO hA2 hA hS hC3 d1 d2 hrow h' hu'
  generalize (if c = a then bo else bo + a * 1) = o2 at *
  have q1' := Lib.hid q1
  have q2' := Lib.hid q2
  have hba : b ≤ c - a + a := by omega
  generalize c - a = c2 at *
  clear q1 q2
  go_wp2
  exact ret_t1 rfl _ rfl rfl ⟨⟨bb, o2, c2, rfl, by omega, hbbi, q2'.out⟩, q1'.out, q3⟩
end Go.Proofs.YtihelknkcomjpaaDoor
namespace Go.Proofs.YtihelknkcomjpaaDoor
open Go.RowKit BigFrame
set_option maxRecDepth 100000
/-- Does the offset of number q not fit? -/
def offBad (hd len : Nat) (ns : List Nat) (q : Nat) : Prop := (q = 0 ∧ ns.getD 0 0 ≠ hd) ∨ ns.getD q 0 < (if q = 0 then hd else ns.getD (q - 1) 0) ∨ len < ns.getD q 0
instance (hd len : Nat) (ns : List Nat) (q : Nat) : Decidable (offBad hd len ns q) := by unfold offBad; infer_instance
/-- Do the first k fit? -/
def offGood (hd len : Nat) (ns : List Nat) (k : Nat) : Prop := ∀ q, q < k → ¬ offBad hd len ns q
instance (hd len : Nat) (ns : List Nat) (k : Nat) : Decidable (offGood hd len ns k) := by unfold offGood; infer_instance
theorem InG.setU {u u' : Value} {nx nx' i : Nat} {l : List Int} {va : Option Addr} {c at' err at2 err2 : Nat} {w w' : World} (h : InG u nx i l va c at' err w) (hA : Apart i w w') (hc : w'.heap[i]? = some (.cells (inD u' nx' va l.length c at2 err2) 104 (0, 0))) : InG u' nx' i l va c at2 err2 w' :=
  ⟨hc, ⟨fun j hj => by
    obtain ⟨b, o, e, hcell⟩ := h.row.cell j hj
    have hb := h.low _ e
    exact ⟨b, o, e, (hA.cell (p := ⟨b, o + j, none⟩) (block_lt_of_cell hcell) (Nat.ne_of_lt hb)).trans hcell⟩, h.row.ok⟩, h.low, h.cap, h.nil, h.few⟩
theorem own_weak {base base' sz n : Nat} {e : TypeId} {v : Value} {cs : List Value} {w : World} (h : w.ownsRow base e sz v n cs) (hb : base' ≤ base) : w.ownsRow base' e sz v n cs := by
  refine ⟨h.1, ?_⟩
  rcases h.2 with h1 | ⟨g, cap, cur, h1, h2, h3⟩
  · exact Or.inl h1
  · exact Or.inr ⟨g, cap, cur, h1, by omega, h3⟩
theorem take_snocN {α : Type} (l : List α) (d : α) (k : Nat) (h : k < l.length) : l.take (k + 1) = l.take k ++ [l.getD k d] := by
  rw [List.take_add_one, List.getD, List.getElem?_eq_getElem h]
  rfl
theorem off_step {hd L : Nat} {ns : List Nat} {j : Nat} (h : offGood hd L ns j) (hb : ¬ offBad hd L ns j) : offGood hd L ns (j + 1) := fun q hq => by
  by_cases e : q = j
  · rw [e]; exact hb
  · exact h q (by omega)
theorem ret_noneR {P : Program} {fn : Func} {R : Ending → World → Prop} {a : Act} {w : World} (h : fn.results = #[]) (hd : a.defers = []) (hR : R (.returned (.tuple #[])) w) : bodyPost P fn R .ret a w := by
  refine bodyPost_ret ?_ hd hR
  simp [results, h]
theorem in_offsets0 {u : Value} {nx : Nat} (i : Nat) (l : List Int) (va : Option Addr) (c at' err : Nat) (x : Int) (ad : Option Addr) (k cs : Nat) (w : World) (h : InG u nx i l va c at' err w) (he : err ≠ 0) :
    Calls Tryd.prog 74 #[.pointer (some ⟨i, 0, none⟩), .int .i64 x, .slice ad k cs] w fun e w' => e = .returned (.tuple #[]) ∧ w = w' := by
  have h' := Lib.hid h
  clear h
  have he' : ((err : Int) != 0) = true := by simp [he]
  go_enter Tryd.func74, Tryd.ntmps74
  go_wp2_with (
    ((with_reducible refine at_load 36 ?_); go_loud (refine wpList_value (by rfl) _ (run_load_cell _ 36 _ (by rfl) ⟨i, 4, none⟩ (by rfl) (.int .i64 (err : Int)) (cell_in h'.out.cells 4) _ Tryd.underlying36 rfl) ?_)))
  exact ret_noneR rfl rfl ⟨rfl, rfl⟩
set_option maxHeartbeats 16000000 in
theorem in_offsetsG (i : Nat) (l : List Int) (va : Option Addr) (c hd gs k cs : Nat) (ps : List Nat) (w : World) (h0 : InW i l va c 0 0 w) (hpos : 0 < l.length) (hk1 : ps.length = k) (hk : k ≤ 100) (hhd : hd ≤ l.length)
    (hps0 : ∀ j, j < k → w.cell? ⟨gs, j, none⟩ = some (.int .i64 ((ps.getD j 0 : Nat) : Int))) (hgs : gs < w.heap.size) (hgi : gs ≠ i) (hin0 : ∀ j, j < k → ps.getD j 0 + 4 ≤ l.length) (hg0 : offGood hd l.length (ps.map (offL l)) k) :
    Calls Tryd.prog 74 #[.pointer (some ⟨i, 0, none⟩), .int .i64 (hd : Int), .slice (some ⟨gs, 0, none⟩) k cs] w fun e w' => e = .returned (.tuple #[]) ∧ InO (ps.map (offL l) ++ [l.length]) 0 i l va c 0 0 w' ∧ Apart i w w' := by
  obtain ⟨bb, bo, hva, _⟩ := h0.row.cell 0 hpos
  subst hva
  have hfew := h0.few
  have hiz := h0.size
  obtain ⟨ns, hns⟩ : ∃ ns, ns = ps.map (offL l) := ⟨_, rfl⟩
  rw [← hns] at hg0
  try rw [← hns]
  have hnl : ns.length = k := by rw [hns, List.length_map, hk1]
  have hnv : ∀ j, j < k → ((ns.getD j 0 : Nat) : Int) = rdI (fun q => l.getD (ps.getD j 0 + q) 0) 4 := fun j hj => by
    rw [hns]
    have e : (ps.map (offL l)).getD j 0 = offL l (ps.getD j 0) := by simp [List.getD, hk1, hj]
    rw [e]
    exact offL_is h0.row.ok _
  have hnlt : ∀ j, j < k → ns.getD j 0 < 4294967296 := fun j hj => by
    rw [hns]
    have e : (ps.map (offL l)).getD j 0 = offL l (ps.getD j 0) := by simp [List.getD, hk1, hj]
    rw [e]
    exact offL_lt h0.row.ok _
  have hcell : ∀ q, q < l.length → w.cell? ⟨bb, bo + q, none⟩ = some (.int .u8 (l.getD q 0)) := fun q hq => by
    obtain ⟨b', o', e, hc⟩ := h0.row.cell q hq
    cases e
    exact hc
  have hbi : bb < i := h0.low _ rfl
  have hB0 : ∀ j, IsB (l.getD j 0) := list_isB h0.row.ok
  have hI := Lib.hid h0
  have hI0 := Lib.hid h0
  have hps := Lib.hid hps0
  have hin := Lib.hid hin0
  have hcl := Lib.hid hcell
  have hnv' := Lib.hid hnv
  have hnlt' := Lib.hid hnlt
  have hBy := Lib.hid hB0
  clear h0 hps0 hin0 hcell hnv hnlt hns hB0 hk1
  generalize hL : l.length = L at *
  have hL' := Lib.hid hL
  clear hL
  have hg := Lib.hid hg0
  clear hg0
  go_enter Tryd.func74, Tryd.ntmps74
  go_wp2_with (
    ((with_reducible refine at_load 36 ?_); refine at_ldaddr 36 i 4 rfl ?_; go_loud (refine wpList_value (by rfl) _ (run_load_cell _ 36 _ (by rfl) ⟨i, 4, none⟩ (by rfl) (.int .i64 0) (cell_in hI.out.cells 4) _ Tryd.underlying36 rfl) ?_)))
  go_loopw [6, 19] (fun la i' wr => ∃ (j : Nat) (u : Value), j ≤ k ∧ i' = .int .i64 (j : Int) ∧ la = .int .i64 ((if j = 0 then hd else ns.getD (j - 1) 0 : Nat) : Int) ∧ offGood hd L ns j ∧ InG u 0 i l (some ⟨bb, bo, none⟩) c 0 0 wr ∧ wr.ownsRow w.heap.size 3 1 u j ((ns.take j).map fun n : Nat => Value.int .i64 (n : Int)) ∧ Apart i w wr) (fun _ i' _ => k - (intOf i').toNat)
  case atStart => exact ⟨0, _, by omega, rfl, rfl, fun q hq => absurd hq (by omega), hI.out, ⟨rfl, Or.inl ⟨rfl, rfl⟩⟩, Apart.refl _ _⟩
  case round =>
    obtain ⟨j, u, hj, rfl, rfl, hgood, hI1, hO1, hA1⟩ := hrel
    obtain ⟨wr0, hwr0⟩ : ∃ W, W = wr := ⟨_, rfl⟩
    subst hwr0
    clear hI
    have hI := Lib.hid hI1
    have hO := Lib.hid hO1
    have hA := Lib.hid hA1
    clear hI1 hO1 hA1
    generalize hla : (if j = 0 then hd else ns.getD (j - 1) 0) = la at *
    have hlaH := Lib.hid hla
    clear hla
    by_cases hlt : j < k
    · have lj : (j : Int) < (k : Int) := by omega
      have hpc := Lib.hid ((hA.out.cell (p := ⟨gs, j, none⟩) hgs hgi).trans (hps.out j hlt))
      have hp4 := hin.out j hlt
      have hv4 := Lib.hid (hnv'.out j hlt)
      have hv5 := hnlt'.out j hlt
      generalize hp : ps.getD j 0 = p at *
      clear hp
      go_wp2_with (first
        | ((with_reducible refine at_iaddr 82 ?_); go_loud (refine wpList_value (by rfl) _ (run_index_slice _ 82 3 _ _ rfl Tryd.underlying82 1 sz_int gs 0 k cs rfl .i64 j rfl hlt j (by omega)) ?_))
        | ((with_reducible refine at_load 3 ?_); go_loud (refine wpList_value (by rfl) _ (run_load_cell _ 3 _ (by rfl) ⟨gs, j, none⟩ (by rfl) (.int .i64 (p : Int)) hpc.out _ Tryd.underlying3 rfl) ?_)))
      go_loopw [9, 24] (fun n q wr => ∃ m : Nat, m ≤ 4 ∧ q = .int .i64 (m : Int) ∧ n = .int .i64 (rdI (fun q => l.getD (p + q) 0) m) ∧ wr0 = wr) (fun _ q _ => 4 - (intOf q).toNat)
      case atStart => exact ⟨0, by omega, rfl, rfl, rfl⟩
      case round =>
        obtain ⟨m, hm, rfl, rfl, rfl⟩ := hrel
        by_cases hlm : m < 4
        · have lm : (m : Int) < 4 := by omega
          have hx := Lib.hid ((hA.out.cell (p := ⟨bb, bo + (p + m), none⟩) (show bb < w.heap.size by omega) (show bb ≠ i by omega)).trans (hcl.out (p + m) (by omega)))
          have hy := hBy.out (p + m)
          have hv : bits .or .i64 (rdI (fun q => l.getD (p + q) 0) m) (IntKind.i64.wrap (l.getD (p + m) 0 * 2 ^ (8 * m))) = rdI (fun q => l.getD (p + q) 0) (m + 1) := or_stepI (by omega) (rdI_lt (fun q => hBy.out (p + q)) m) hy
          have hw0 : IntKind.i64.wrap (l.getD (p + m) 0) = l.getD (p + m) 0 := by unfold IsB at hy; rw [IntKind.wrap_i64]; omega
          have hw1 : IntKind.i64.wrap (8 * (m : Int)) = ((8 * m : Nat) : Int) := by rw [IntKind.wrap_i64]; omega
          have hw2 : IntKind.i64.wrap ((p : Int) + (m : Int)) = ((p + m : Nat) : Int) := by rw [IntKind.wrap_i64]; omega
          have lsh : ((8 * m : Nat) : Int) < 64 := by omega
          have lpm : p + m < L := by omega
          clear hy
          generalize hsh : 8 * m = sh at *
          generalize l.getD (p + m) 0 = y at *
          generalize rdI (fun q => l.getD (p + q) 0) m = x at *
          generalize hz : rdI (fun q => l.getD (p + q) 0) (m + 1) = z at *
          go_wp2_with (first
            | ((with_reducible refine at_load 34 ?_); refine at_ldaddr 34 i 0 rfl ?_; go_loud (refine wpList_value (by rfl) _ (run_load_cell _ 34 _ (by rfl) ⟨i, 0, none⟩ (by rfl) (.slice (some ⟨bb, bo, none⟩) l.length c) (cell_in hI.out.cells 0) _ Tryd.underlying34 rfl) ?_))
            | ((with_reducible refine at_iaddr 34 ?_); go_loud (refine wpList_value (by rfl) _ (run_index_slice _ 34 5 _ _ rfl Tryd.underlying34 1 sz_u8 bb bo l.length c rfl .i64 (p + m) rfl (by rw [hL'.out]; exact lpm) (bo + (p + m)) (by omega)) ?_))
            | ((with_reducible refine at_load 5 ?_); go_loud (refine wpList_value (by rfl) _ (run_load_cell _ 5 _ (by rfl) ⟨bb, bo + (p + m), none⟩ (by rfl) (.int .u8 y) hx.out _ Tryd.underlying5 rfl) ?_)))
          have hv2 : bits .or .i64 x (wrap64 (y * 2 ^ sh)) = z := by
            unfold wrap64
            rw [← IntKind.wrap_i64]
            exact hv
          exact ⟨⟨m + 1, by omega, by go_num, by rw [hv2, hz], trivial⟩, by simp [intOf]; omega⟩
        · have e : m = 4 := by omega
          subst e
          rw [← hv4.out]
          generalize hnj : ns.getD j 0 = nj at *
          by_cases j0 : j = 0
          · have t1 : ((j : Int) == 0) = true := by simp [j0]
            have hla2 : la = hd := by have := hlaH.out; rw [if_pos j0] at this; exact this.symm
            by_cases q1 : nj = hd
            · have t2 : ((nj : Int) != (hd : Int)) = false := by simp [q1]
              have t3 : decide ((nj : Int) < (la : Int)) = false := by simp; omega
              have t4 : decide ((L : Int) < (nj : Int)) = false := by simp; omega
              have n1 : la ≤ nj := by omega
              have n2 : nj ≤ L := by omega
              have hng := Lib.hid (show offGood hd L ns (j + 1) from off_step hgood (by unfold offBad; rw [hnj, if_pos j0, show ns.getD 0 0 = nj from by rw [← hnj, j0]]; omega))
              have hq1 := Lib.hid q1
              have hl2 := Lib.hid hla2
              have hj0 := Lib.hid j0
              clear q1 hla2 j0
              have hld : wr0.cell? ⟨i, 0, none⟩ = some (.slice (some ⟨bb, bo, none⟩) l.length c) := cell_in hI.out.cells 0
              rw [hL'.out] at hld
              have hw8 := Lib.hid hO.out
              go_wp2_with (first
                | ((with_reducible refine at_load 82 ?_); refine at_ldaddr 82 i 2 rfl ?_; go_loud (refine wpList_value (by rfl) _ (run_load_cell _ 82 _ (by rfl) ⟨i, 2, none⟩ (by rfl) u (cell_in hI.out.cells 2) _ Tryd.underlying82 rfl) ?_))
                | ((with_reducible refine at_bslice 82 ?_); go_loud (refine wpList_plain rfl fun K hK => wp_ran _ (run_bslice_int _ _ (by rfl) (nj : Int) (by rfl)) (hK _ _ ?_)); clear hK K)
                | ((with_reducible refine at_app 82 ?_); go_loud (refine wpList_plain rfl fun K hK => wp_appS (w0 := wr0) (n0 := w.heap.size) (.tmp 71) (.tmp 73) 82 3 rfl Tryd.underlying82 (.int .i64 0) 1 8 info_int rfl (by decide) w.heap.size j u _ rfl (own_later hO.out ((Below.refl _ _).alloc (Nat.le_refl _) _)) ⟨wr0.heap.size, 0, none⟩ 1 1 rfl [.int .i64 (nj : Int)] rfl (range_whole (heap_new _ _ _ _ rfl)) rfl (by simp [Value.oneCell']) (by omega) (by omega) (by rw [World.size_alloc]; have := hA.out.size; omega) (Nat.le_refl _) ((Below.refl _ _).alloc hA.out.size _) (fun v1 W1 h1 b1 z1 o1 q1 => hK _ _ ?_)); clear hK K
                   obtain ⟨va1, c1, e1, _⟩ := own_form h1
                   subst e1
                   have h1' := Lib.hid h1
                   have b1' := Lib.hid b1
                   have hap := Lib.hid (show Apart i w W1 from ⟨b1.os.trans hA.out.os, b1.tape.trans hA.out.tape, b1.output.trans hA.out.output, Nat.le_trans hA.out.size b1.size, fun b hb hbi => (b1.block b hb).trans (hA.out.block b hb hbi)⟩)
                   have hC1 := Lib.hid ((b1.block i (by omega)).trans hI.out.cells)
                   clear h1 b1 z1 o1 q1)
                | ((with_reducible refine at_store 82 ?_); refine at_staddr 82 i 2 rfl ?_; go_loud (refine wpList_plain rfl fun K hK => wp_store1 82 _ _ rfl i 2 rfl (.slice va1 (j + 1) c1) rfl rfl sz_is _ _ hC1.out (by simp [inD]) (fun W2 hC2 hx2 => hK _ _ ?_)); clear hK K))
              have hO2 : W2.ownsRow w.heap.size 3 1 (.slice va1 (j + 1) c1) (j + 1) ((ns.take (j + 1)).map fun n : Nat => Value.int .i64 (n : Int)) := by
                have h5 := own_apart h1'.out hx2 (by omega)
                rw [take_snocN ns 0 j (by omega), hnj, List.map_append]
                exact h5
              refine ⟨⟨j + 1, .slice va1 (j + 1) c1, by omega, by go_num, by rw [if_neg (by omega), Nat.add_sub_cancel, hnj], hng.out, hI0.out.setU (hap.out.trans hx2) hC2, hO2, hap.out.trans hx2⟩, by simp [intOf]; omega⟩
            · have t2 : ((nj : Int) != (hd : Int)) = true := by simp; omega
              have hng := Lib.hid (show ¬ offGood hd L ns k from fun h => h j hlt (Or.inl ⟨j0, by rw [j0] at hnj; rw [hnj]; exact q1⟩))
              have n0 : ¬ nj = hd := q1
              clear q1 hla2 j0
              exact absurd hg.out hng.out
          · have t1 : ((j : Int) == 0) = false := by simp [j0]
            have hla2 : la = ns.getD (j - 1) 0 := by have := hlaH.out; rw [if_neg j0] at this; exact this.symm
            by_cases q1 : nj < la
            · have t3 : decide ((nj : Int) < (la : Int)) = true := by simp; omega
              have hng := Lib.hid (show ¬ offGood hd L ns k from fun h => h j hlt (Or.inr (Or.inl (by rw [hnj, if_neg j0, ← hla2]; exact q1))))
              have n1 : nj < la := q1
              clear q1 hla2
              exact absurd hg.out hng.out
            · have t3 : decide ((nj : Int) < (la : Int)) = false := by simp; omega
              by_cases q2 : L < nj
              · have t4 : decide ((L : Int) < (nj : Int)) = true := by simp; omega
                have hng := Lib.hid (show ¬ offGood hd L ns k from fun h => h j hlt (Or.inr (Or.inr (by rw [hnj]; exact q2))))
                have n1 : la ≤ nj := by omega
                have n2 : L < nj := q2
                clear q1 q2 hla2
                exact absurd hg.out hng.out
              · have t4 : decide ((L : Int) < (nj : Int)) = false := by simp; omega
                have n1 : la ≤ nj := by omega
                have n2 : nj ≤ L := by omega
                have hng := Lib.hid (show offGood hd L ns (j + 1) from off_step hgood (by unfold offBad; rw [hnj, if_neg j0, ← hla2]; omega))
                have hq1 := Lib.hid q1
                have hq2 := Lib.hid q2
                have hl2 := Lib.hid hla2
                clear q1 q2 hla2
                have hld : wr0.cell? ⟨i, 0, none⟩ = some (.slice (some ⟨bb, bo, none⟩) l.length c) := cell_in hI.out.cells 0
                rw [hL'.out] at hld
                have hw8 := Lib.hid hO.out
                go_wp2_with (first
                  | ((with_reducible refine at_load 82 ?_); refine at_ldaddr 82 i 2 rfl ?_; go_loud (refine wpList_value (by rfl) _ (run_load_cell _ 82 _ (by rfl) ⟨i, 2, none⟩ (by rfl) u (cell_in hI.out.cells 2) _ Tryd.underlying82 rfl) ?_))
                  | ((with_reducible refine at_bslice 82 ?_); go_loud (refine wpList_plain rfl fun K hK => wp_ran _ (run_bslice_int _ _ (by rfl) (nj : Int) (by rfl)) (hK _ _ ?_)); clear hK K)
                  | ((with_reducible refine at_app 82 ?_); go_loud (refine wpList_plain rfl fun K hK => wp_appS (w0 := wr0) (n0 := w.heap.size) (.tmp 71) (.tmp 73) 82 3 rfl Tryd.underlying82 (.int .i64 0) 1 8 info_int rfl (by decide) w.heap.size j u _ rfl (own_later hO.out ((Below.refl _ _).alloc (Nat.le_refl _) _)) ⟨wr0.heap.size, 0, none⟩ 1 1 rfl [.int .i64 (nj : Int)] rfl (range_whole (heap_new _ _ _ _ rfl)) rfl (by simp [Value.oneCell']) (by omega) (by omega) (by rw [World.size_alloc]; have := hA.out.size; omega) (Nat.le_refl _) ((Below.refl _ _).alloc hA.out.size _) (fun v1 W1 h1 b1 z1 o1 q1 => hK _ _ ?_)); clear hK K
                     obtain ⟨va1, c1, e1, _⟩ := own_form h1
                     subst e1
                     have h1' := Lib.hid h1
                     have b1' := Lib.hid b1
                     have hap := Lib.hid (show Apart i w W1 from ⟨b1.os.trans hA.out.os, b1.tape.trans hA.out.tape, b1.output.trans hA.out.output, Nat.le_trans hA.out.size b1.size, fun b hb hbi => (b1.block b hb).trans (hA.out.block b hb hbi)⟩)
                     have hC1 := Lib.hid ((b1.block i (by omega)).trans hI.out.cells)
                     clear h1 b1 z1 o1 q1)
                  | ((with_reducible refine at_store 82 ?_); refine at_staddr 82 i 2 rfl ?_; go_loud (refine wpList_plain rfl fun K hK => wp_store1 82 _ _ rfl i 2 rfl (.slice va1 (j + 1) c1) rfl rfl sz_is _ _ hC1.out (by simp [inD]) (fun W2 hC2 hx2 => hK _ _ ?_)); clear hK K))
                have hO2 : W2.ownsRow w.heap.size 3 1 (.slice va1 (j + 1) c1) (j + 1) ((ns.take (j + 1)).map fun n : Nat => Value.int .i64 (n : Int)) := by
                  have h5 := own_apart h1'.out hx2 (by omega)
                  rw [take_snocN ns 0 j (by omega), hnj, List.map_append]
                  exact h5
                refine ⟨⟨j + 1, .slice va1 (j + 1) c1, by omega, by go_num, by rw [if_neg (by omega), Nat.add_sub_cancel, hnj], hng.out, hI0.out.setU (hap.out.trans hx2) hC2, hO2, hap.out.trans hx2⟩, by simp [intOf]; omega⟩
    · have e : j = k := by omega
      subst e
      obtain ⟨vu, cu, eu, _⟩ := own_form hO.out
      subst eu
      have hld : wr0.cell? ⟨i, 0, none⟩ = some (.slice (some ⟨bb, bo, none⟩) l.length c) := cell_in hI.out.cells 0
      rw [hL'.out] at hld
      have hlu : wr0.cell? ⟨i, 2, none⟩ = some (.slice vu j cu) := cell_in hI.out.cells 2
      go_wp2
      refine wp_region_held (S := fun w' => w'.cell? ⟨i, 0, none⟩ = some (.slice (some ⟨bb, bo, none⟩) L c)) (by kernel_rfl) ?_
      have hS : ({ wr0 with drawn := wr0.drawn + 1 } : World).cell? ⟨i, 0, none⟩ = some (.slice (some ⟨bb, bo, none⟩) L c) := hld
      have hws : i + 1 ≤ wr0.heap.size := Nat.le_trans hiz hA.out.size
      refine takeL (i := 0) (v := (.pointer (some ⟨i, 0, none⟩))) rfl (by kernel_rfl) (by kernel_rfl) (by kernel_rfl) (fun _ _ _ h => h) rfl (by assumption) (fun w' hS' => by go_simp) ?_
      simp only [Act.put, List.setIfInBounds_toArray, List.set_cons_zero, List.set_cons_succ]
      refine takeL (i := 1) (v := (.pointer (some ⟨i, 0, none⟩))) rfl (by kernel_rfl) (by kernel_rfl) (by kernel_rfl) (fun _ _ _ h => h) rfl (by assumption) (fun w' hS' => by go_simp) ?_
      simp only [Act.put, List.setIfInBounds_toArray, List.set_cons_zero, List.set_cons_succ]
      refine takeL (i := 5) (v := (.pointer (some ⟨i, 0, none⟩))) rfl (by kernel_rfl) (by kernel_rfl) (by kernel_rfl) (fun _ _ _ h => h) rfl (by assumption) (fun w' hS' => by go_simp) ?_
      simp only [Act.put, List.setIfInBounds_toArray, List.set_cons_zero, List.set_cons_succ]
      refine takeL (i := 2) (v := (.pointer (some ⟨i, 0, none⟩))) rfl (by kernel_rfl) (by kernel_rfl) (by kernel_rfl) (fun _ _ _ h => h) rfl (by assumption) (fun w' hS' => by go_simp) ?_
      simp only [Act.put, List.setIfInBounds_toArray, List.set_cons_zero, List.set_cons_succ]
      refine takeL (i := 6) (v := (.pointer (some ⟨i, 0, none⟩))) rfl (by kernel_rfl) (by kernel_rfl) (by kernel_rfl) (fun _ _ _ h => h) rfl (by assumption) (fun w' hS' => by go_simp) ?_
      simp only [Act.put, List.setIfInBounds_toArray, List.set_cons_zero, List.set_cons_succ]
      refine takeL (i := 3) (v := (.pointer (some ⟨i, 2, none⟩))) rfl (by kernel_rfl) (by kernel_rfl) (by kernel_rfl) (fun _ _ _ h => h) rfl (by assumption) (fun w' hS' => by go_simp) ?_
      simp only [Act.put, List.setIfInBounds_toArray, List.set_cons_zero, List.set_cons_succ]
      refine takeL (i := 7) (v := (.pointer (some ⟨i, 0, none⟩))) rfl (by kernel_rfl) (by kernel_rfl) (by kernel_rfl) (fun _ _ _ h => h) rfl (by assumption) (fun w' hS' => by go_simp) ?_
      simp only [Act.put, List.setIfInBounds_toArray, List.set_cons_zero, List.set_cons_succ]
      refine takeL (i := 8) (v := (.slice (some ⟨bb, bo, none⟩) L c)) rfl (by kernel_rfl) (by kernel_rfl) (by kernel_rfl) (fun _ _ _ h => h) rfl (by assumption) (fun w' hS' => run_load_cell _ 34 _ (by rfl) ⟨i, 0, none⟩ (by rfl) _ hS' _ Tryd.underlying34 rfl) ?_
      simp only [Act.put, List.setIfInBounds_toArray, List.set_cons_zero, List.set_cons_succ]
      refine takeL (i := 9) (v := (.int .i64 (L : Int))) rfl (by kernel_rfl) (by kernel_rfl) (by kernel_rfl) (fun _ _ _ h => h) rfl (by assumption) (fun w' hS' => by go_simp) ?_
      simp only [Act.put, List.setIfInBounds_toArray, List.set_cons_zero, List.set_cons_succ]
      refine pairL (i := 4) (k := 10) (.slice vu j cu) (.slice (some ⟨wr0.heap.size, 0, none⟩) 1 1) (Wn := ({ wr0 with drawn := wr0.drawn + 1 } : World).alloc (.cells #[.int .i64 (L : Int)] 3)) rfl rfl (by kernel_rfl) (by kernel_rfl) (by kernel_rfl) rfl rfl rfl rfl (run_load_cell _ 82 _ (by rfl) ⟨i, 2, none⟩ (by rfl) _ hlu _ Tryd.underlying82 rfl) (run_load_cell _ 82 _ (by rfl) ⟨i, 2, none⟩ (by rfl) _ ((((Below.refl (i + 1) wr0).drew.alloc hws _).cell (p := ⟨i, 2, none⟩) (Nat.lt_succ_self i)).trans hlu) _ Tryd.underlying82 rfl) (run_bslice_int _ _ (by rfl) (L : Int) (by rfl)) (run_bslice_int _ _ (by rfl) (L : Int) (by rfl)) hS ((((Below.refl (i + 1) wr0).drew.alloc hws _).cell (p := ⟨i, 0, none⟩) (Nat.lt_succ_self i)).trans hld) rfl rfl ?_
      simp only [Act.put, List.setIfInBounds_toArray, List.set_cons_zero, List.set_cons_succ]
      refine oneL (i := 11) rfl (by kernel_rfl) rfl (wp_appS (w0 := wr0) (n0 := w.heap.size) (.tmp 83) (.tmp 89) 82 3 rfl Tryd.underlying82 (.int .i64 0) 1 8 info_int rfl (by decide) w.heap.size j (.slice vu j cu) _ rfl (own_later hO.out ((Below.refl _ _).drew.alloc (Nat.le_refl _) _)) ⟨wr0.heap.size, 0, none⟩ 1 1 rfl [.int .i64 (L : Int)] rfl (range_whole (heap_new _ _ _ _ rfl)) rfl (by simp [Value.oneCell']) (by omega) (by omega) (by rw [World.size_alloc]; have := hA.out.size; show w.heap.size ≤ wr0.heap.size + 1; omega) (Nat.le_refl _) ((Below.refl _ wr0).drew.alloc hA.out.size _) (fun v1 W1 h1 b1 z1 o1 q1 => ⟨(b1.cell (p := ⟨i, 0, none⟩) (by show i < w.heap.size; omega)).trans hld, ?_⟩))
      obtain ⟨va1, c1, e1, _⟩ := own_form h1
      subst e1
      have hap := Lib.hid (show Apart i w W1 from ⟨b1.os.trans hA.out.os, b1.tape.trans hA.out.tape, b1.output.trans hA.out.output, Nat.le_trans hA.out.size b1.size, fun b hb hbi => (b1.block b hb).trans (hA.out.block b hb hbi)⟩)
      have hC1 := Lib.hid ((b1.block i (by omega)).trans hI.out.cells)
      have hS : W1.cell? ⟨i, 0, none⟩ = some (.slice (some ⟨bb, bo, none⟩) L c) := (b1.cell (p := ⟨i, 0, none⟩) (by show i < w.heap.size; omega)).trans hld
      simp only [Act.put, List.setIfInBounds_toArray, List.set_cons_zero, List.set_cons_succ]
      refine takeL (i := 12) (v := (.pointer (some ⟨i, 0, none⟩))) rfl (by kernel_rfl) (by kernel_rfl) (by kernel_rfl) (fun _ _ _ h => h) rfl (by assumption) (fun w' hS' => by go_simp) ?_
      simp only [Act.put, List.setIfInBounds_toArray, List.set_cons_zero, List.set_cons_succ]
      refine takeL (i := 13) (v := (.pointer (some ⟨i, 2, none⟩))) rfl (by kernel_rfl) (by kernel_rfl) (by kernel_rfl) (fun _ _ _ h => h) rfl (by assumption) (fun w' hS' => by go_simp) ?_
      simp only [Act.put, List.setIfInBounds_toArray, List.set_cons_zero, List.set_cons_succ]
      refine oneL (i := 14) rfl (by kernel_rfl) rfl (wp_store1 82 _ _ rfl i 2 rfl (.slice va1 (j + 1) c1) rfl rfl sz_is _ _ hC1.out (by simp [inD]) (fun W2 hC2 hx2 => ⟨?_, ?_⟩))
      · rw [hL'.out] at hC2
        exact cell_in hC2 0
      refine wpAnyH_done (by kernel_rfl) ?_ _
      have hO2 : W2.ownsRow (i + 1) 3 1 (.slice va1 (j + 1) c1) (ns ++ [L]).length ((ns ++ [L]).map fun n : Nat => Value.int .i64 (n : Int)) := by
        have h5 := own_weak (own_apart h1 hx2 (by omega)) hiz
        rw [List.length_append, hnl, List.map_append]
        rw [← hnl, List.take_length] at h5
        rw [hnl] at h5
        exact h5
      exact ret_none rfl rfl ⟨rfl, ⟨_, hI0.out.setU (hap.out.trans hx2) hC2, hO2⟩, hap.out.trans hx2⟩
set_option maxHeartbeats 16000000 in
theorem in_offsetsB (i : Nat) (l : List Int) (va : Option Addr) (c hd gs k cs : Nat) (ps : List Nat) (w : World) (h0 : InW i l va c 0 0 w) (hpos : 0 < l.length) (hk1 : ps.length = k) (hk : k ≤ 100) (hhd : hd ≤ l.length)
    (hps0 : ∀ j, j < k → w.cell? ⟨gs, j, none⟩ = some (.int .i64 ((ps.getD j 0 : Nat) : Int))) (hgs : gs < w.heap.size) (hgi : gs ≠ i) (hin0 : ∀ j, j < k → ps.getD j 0 + 4 ≤ l.length) (hg0 : ¬ offGood hd l.length (ps.map (offL l)) k) :
    Calls Tryd.prog 74 #[.pointer (some ⟨i, 0, none⟩), .int .i64 (hd : Int), .slice (some ⟨gs, 0, none⟩) k cs] w fun e w' => e = .returned (.tuple #[]) ∧ (∃ offs, InO offs 0 i l va c 0 5 w') ∧ Apart i w w' := by
  obtain ⟨bb, bo, hva, _⟩ := h0.row.cell 0 hpos
  subst hva
  have hfew := h0.few
  have hiz := h0.size
  obtain ⟨ns, hns⟩ : ∃ ns, ns = ps.map (offL l) := ⟨_, rfl⟩
  rw [← hns] at hg0
  try rw [← hns]
  have hnl : ns.length = k := by rw [hns, List.length_map, hk1]
  have hnv : ∀ j, j < k → ((ns.getD j 0 : Nat) : Int) = rdI (fun q => l.getD (ps.getD j 0 + q) 0) 4 := fun j hj => by
    rw [hns]
    have e : (ps.map (offL l)).getD j 0 = offL l (ps.getD j 0) := by simp [List.getD, hk1, hj]
    rw [e]
    exact offL_is h0.row.ok _
  have hnlt : ∀ j, j < k → ns.getD j 0 < 4294967296 := fun j hj => by
    rw [hns]
    have e : (ps.map (offL l)).getD j 0 = offL l (ps.getD j 0) := by simp [List.getD, hk1, hj]
    rw [e]
    exact offL_lt h0.row.ok _
  have hcell : ∀ q, q < l.length → w.cell? ⟨bb, bo + q, none⟩ = some (.int .u8 (l.getD q 0)) := fun q hq => by
    obtain ⟨b', o', e, hc⟩ := h0.row.cell q hq
    cases e
    exact hc
  have hbi : bb < i := h0.low _ rfl
  have hB0 : ∀ j, IsB (l.getD j 0) := list_isB h0.row.ok
  have hI := Lib.hid h0
  have hI0 := Lib.hid h0
  have hps := Lib.hid hps0
  have hin := Lib.hid hin0
  have hcl := Lib.hid hcell
  have hnv' := Lib.hid hnv
  have hnlt' := Lib.hid hnlt
  have hBy := Lib.hid hB0
  clear h0 hps0 hin0 hcell hnv hnlt hns hB0 hk1
  generalize hL : l.length = L at *
  have hL' := Lib.hid hL
  clear hL
  have hg := Lib.hid hg0
  clear hg0
  go_enter Tryd.func74, Tryd.ntmps74
  go_wp2_with (
    ((with_reducible refine at_load 36 ?_); refine at_ldaddr 36 i 4 rfl ?_; go_loud (refine wpList_value (by rfl) _ (run_load_cell _ 36 _ (by rfl) ⟨i, 4, none⟩ (by rfl) (.int .i64 0) (cell_in hI.out.cells 4) _ Tryd.underlying36 rfl) ?_)))
  go_loopw [6, 19] (fun la i' wr => ∃ (j : Nat) (u : Value), j ≤ k ∧ i' = .int .i64 (j : Int) ∧ la = .int .i64 ((if j = 0 then hd else ns.getD (j - 1) 0 : Nat) : Int) ∧ offGood hd L ns j ∧ InG u 0 i l (some ⟨bb, bo, none⟩) c 0 0 wr ∧ wr.ownsRow w.heap.size 3 1 u j ((ns.take j).map fun n : Nat => Value.int .i64 (n : Int)) ∧ Apart i w wr) (fun _ i' _ => k - (intOf i').toNat)
  case atStart => exact ⟨0, _, by omega, rfl, rfl, fun q hq => absurd hq (by omega), hI.out, ⟨rfl, Or.inl ⟨rfl, rfl⟩⟩, Apart.refl _ _⟩
  case round =>
    obtain ⟨j, u, hj, rfl, rfl, hgood, hI1, hO1, hA1⟩ := hrel
    obtain ⟨wr0, hwr0⟩ : ∃ W, W = wr := ⟨_, rfl⟩
    subst hwr0
    clear hI
    have hI := Lib.hid hI1
    have hO := Lib.hid hO1
    have hA := Lib.hid hA1
    clear hI1 hO1 hA1
    generalize hla : (if j = 0 then hd else ns.getD (j - 1) 0) = la at *
    have hlaH := Lib.hid hla
    clear hla
    by_cases hlt : j < k
    · have lj : (j : Int) < (k : Int) := by omega
      have hpc := Lib.hid ((hA.out.cell (p := ⟨gs, j, none⟩) hgs hgi).trans (hps.out j hlt))
      have hp4 := hin.out j hlt
      have hv4 := Lib.hid (hnv'.out j hlt)
      have hv5 := hnlt'.out j hlt
      generalize hp : ps.getD j 0 = p at *
      clear hp
      go_wp2_with (first
        | ((with_reducible refine at_iaddr 82 ?_); go_loud (refine wpList_value (by rfl) _ (run_index_slice _ 82 3 _ _ rfl Tryd.underlying82 1 sz_int gs 0 k cs rfl .i64 j rfl hlt j (by omega)) ?_))
        | ((with_reducible refine at_load 3 ?_); go_loud (refine wpList_value (by rfl) _ (run_load_cell _ 3 _ (by rfl) ⟨gs, j, none⟩ (by rfl) (.int .i64 (p : Int)) hpc.out _ Tryd.underlying3 rfl) ?_)))
      go_loopw [9, 24] (fun n q wr => ∃ m : Nat, m ≤ 4 ∧ q = .int .i64 (m : Int) ∧ n = .int .i64 (rdI (fun q => l.getD (p + q) 0) m) ∧ wr0 = wr) (fun _ q _ => 4 - (intOf q).toNat)
      case atStart => exact ⟨0, by omega, rfl, rfl, rfl⟩
      case round =>
        obtain ⟨m, hm, rfl, rfl, rfl⟩ := hrel
        by_cases hlm : m < 4
        · have lm : (m : Int) < 4 := by omega
          have hx := Lib.hid ((hA.out.cell (p := ⟨bb, bo + (p + m), none⟩) (show bb < w.heap.size by omega) (show bb ≠ i by omega)).trans (hcl.out (p + m) (by omega)))
          have hy := hBy.out (p + m)
          have hv : bits .or .i64 (rdI (fun q => l.getD (p + q) 0) m) (IntKind.i64.wrap (l.getD (p + m) 0 * 2 ^ (8 * m))) = rdI (fun q => l.getD (p + q) 0) (m + 1) := or_stepI (by omega) (rdI_lt (fun q => hBy.out (p + q)) m) hy
          have hw0 : IntKind.i64.wrap (l.getD (p + m) 0) = l.getD (p + m) 0 := by unfold IsB at hy; rw [IntKind.wrap_i64]; omega
          have hw1 : IntKind.i64.wrap (8 * (m : Int)) = ((8 * m : Nat) : Int) := by rw [IntKind.wrap_i64]; omega
          have hw2 : IntKind.i64.wrap ((p : Int) + (m : Int)) = ((p + m : Nat) : Int) := by rw [IntKind.wrap_i64]; omega
          have lsh : ((8 * m : Nat) : Int) < 64 := by omega
          have lpm : p + m < L := by omega
          clear hy
          generalize hsh : 8 * m = sh at *
          generalize l.getD (p + m) 0 = y at *
          generalize rdI (fun q => l.getD (p + q) 0) m = x at *
          generalize hz : rdI (fun q => l.getD (p + q) 0) (m + 1) = z at *
          go_wp2_with (first
            | ((with_reducible refine at_load 34 ?_); refine at_ldaddr 34 i 0 rfl ?_; go_loud (refine wpList_value (by rfl) _ (run_load_cell _ 34 _ (by rfl) ⟨i, 0, none⟩ (by rfl) (.slice (some ⟨bb, bo, none⟩) l.length c) (cell_in hI.out.cells 0) _ Tryd.underlying34 rfl) ?_))
            | ((with_reducible refine at_iaddr 34 ?_); go_loud (refine wpList_value (by rfl) _ (run_index_slice _ 34 5 _ _ rfl Tryd.underlying34 1 sz_u8 bb bo l.length c rfl .i64 (p + m) rfl (by rw [hL'.out]; exact lpm) (bo + (p + m)) (by omega)) ?_))
            | ((with_reducible refine at_load 5 ?_); go_loud (refine wpList_value (by rfl) _ (run_load_cell _ 5 _ (by rfl) ⟨bb, bo + (p + m), none⟩ (by rfl) (.int .u8 y) hx.out _ Tryd.underlying5 rfl) ?_)))
          have hv2 : bits .or .i64 x (wrap64 (y * 2 ^ sh)) = z := by
            unfold wrap64
            rw [← IntKind.wrap_i64]
            exact hv
          exact ⟨⟨m + 1, by omega, by go_num, by rw [hv2, hz], trivial⟩, by simp [intOf]; omega⟩
        · have e : m = 4 := by omega
          subst e
          rw [← hv4.out]
          generalize hnj : ns.getD j 0 = nj at *
          by_cases j0 : j = 0
          · have t1 : ((j : Int) == 0) = true := by simp [j0]
            have hla2 : la = hd := by have := hlaH.out; rw [if_pos j0] at this; exact this.symm
            by_cases q1 : nj = hd
            · have t2 : ((nj : Int) != (hd : Int)) = false := by simp [q1]
              have t3 : decide ((nj : Int) < (la : Int)) = false := by simp; omega
              have t4 : decide ((L : Int) < (nj : Int)) = false := by simp; omega
              have n1 : la ≤ nj := by omega
              have n2 : nj ≤ L := by omega
              have hng := Lib.hid (show offGood hd L ns (j + 1) from off_step hgood (by unfold offBad; rw [hnj, if_pos j0, show ns.getD 0 0 = nj from by rw [← hnj, j0]]; omega))
              have hq1 := Lib.hid q1
              have hl2 := Lib.hid hla2
              have hj0 := Lib.hid j0
              clear q1 hla2 j0
              have hld : wr0.cell? ⟨i, 0, none⟩ = some (.slice (some ⟨bb, bo, none⟩) l.length c) := cell_in hI.out.cells 0
              rw [hL'.out] at hld
              have hw8 := Lib.hid hO.out
              go_wp2_with (first
                | ((with_reducible refine at_load 82 ?_); refine at_ldaddr 82 i 2 rfl ?_; go_loud (refine wpList_value (by rfl) _ (run_load_cell _ 82 _ (by rfl) ⟨i, 2, none⟩ (by rfl) u (cell_in hI.out.cells 2) _ Tryd.underlying82 rfl) ?_))
                | ((with_reducible refine at_bslice 82 ?_); go_loud (refine wpList_plain rfl fun K hK => wp_ran _ (run_bslice_int _ _ (by rfl) (nj : Int) (by rfl)) (hK _ _ ?_)); clear hK K)
                | ((with_reducible refine at_app 82 ?_); go_loud (refine wpList_plain rfl fun K hK => wp_appS (w0 := wr0) (n0 := w.heap.size) (.tmp 71) (.tmp 73) 82 3 rfl Tryd.underlying82 (.int .i64 0) 1 8 info_int rfl (by decide) w.heap.size j u _ rfl (own_later hO.out ((Below.refl _ _).alloc (Nat.le_refl _) _)) ⟨wr0.heap.size, 0, none⟩ 1 1 rfl [.int .i64 (nj : Int)] rfl (range_whole (heap_new _ _ _ _ rfl)) rfl (by simp [Value.oneCell']) (by omega) (by omega) (by rw [World.size_alloc]; have := hA.out.size; omega) (Nat.le_refl _) ((Below.refl _ _).alloc hA.out.size _) (fun v1 W1 h1 b1 z1 o1 q1 => hK _ _ ?_)); clear hK K
                   obtain ⟨va1, c1, e1, _⟩ := own_form h1
                   subst e1
                   have h1' := Lib.hid h1
                   have b1' := Lib.hid b1
                   have hap := Lib.hid (show Apart i w W1 from ⟨b1.os.trans hA.out.os, b1.tape.trans hA.out.tape, b1.output.trans hA.out.output, Nat.le_trans hA.out.size b1.size, fun b hb hbi => (b1.block b hb).trans (hA.out.block b hb hbi)⟩)
                   have hC1 := Lib.hid ((b1.block i (by omega)).trans hI.out.cells)
                   clear h1 b1 z1 o1 q1)
                | ((with_reducible refine at_store 82 ?_); refine at_staddr 82 i 2 rfl ?_; go_loud (refine wpList_plain rfl fun K hK => wp_store1 82 _ _ rfl i 2 rfl (.slice va1 (j + 1) c1) rfl rfl sz_is _ _ hC1.out (by simp [inD]) (fun W2 hC2 hx2 => hK _ _ ?_)); clear hK K))
              have hO2 : W2.ownsRow w.heap.size 3 1 (.slice va1 (j + 1) c1) (j + 1) ((ns.take (j + 1)).map fun n : Nat => Value.int .i64 (n : Int)) := by
                have h5 := own_apart h1'.out hx2 (by omega)
                rw [take_snocN ns 0 j (by omega), hnj, List.map_append]
                exact h5
              refine ⟨⟨j + 1, .slice va1 (j + 1) c1, by omega, by go_num, by rw [if_neg (by omega), Nat.add_sub_cancel, hnj], hng.out, hI0.out.setU (hap.out.trans hx2) hC2, hO2, hap.out.trans hx2⟩, by simp [intOf]; omega⟩
            · have t2 : ((nj : Int) != (hd : Int)) = true := by simp; omega
              have hng := Lib.hid (show ¬ offGood hd L ns k from fun h => h j hlt (Or.inl ⟨j0, by rw [j0] at hnj; rw [hnj]; exact q1⟩))
              have n0 : ¬ nj = hd := q1
              clear q1 hla2 j0
              have hld : wr0.cell? ⟨i, 0, none⟩ = some (.slice (some ⟨bb, bo, none⟩) l.length c) := cell_in hI.out.cells 0
              rw [hL'.out] at hld
              go_wp2_with (
                ((with_reducible refine at_store 36 ?_); refine at_staddr 36 i 4 rfl ?_; go_loud (refine wpList_plain rfl fun K hK => wp_store1 36 _ _ rfl i 4 rfl (.int .i64 5) rfl rfl sz_errno _ _ hI.out.cells (by simp [inD]) (fun W2 hC2 hx2 => hK _ _ ?_)); clear hK K))
              refine ret_noneR rfl rfl ⟨rfl, ⟨ns.take j, u, hI.out.setU hx2 hC2, ?_⟩, hA.out.trans hx2⟩
              have h5 := own_apart (own_weak hO.out hiz) hx2 (Nat.lt_succ_self i)
              rwa [show (ns.take j).length = j by rw [List.length_take]; omega]
          · have t1 : ((j : Int) == 0) = false := by simp [j0]
            have hla2 : la = ns.getD (j - 1) 0 := by have := hlaH.out; rw [if_neg j0] at this; exact this.symm
            by_cases q1 : nj < la
            · have t3 : decide ((nj : Int) < (la : Int)) = true := by simp; omega
              have hng := Lib.hid (show ¬ offGood hd L ns k from fun h => h j hlt (Or.inr (Or.inl (by rw [hnj, if_neg j0, ← hla2]; exact q1))))
              have n1 : nj < la := q1
              clear q1 hla2
              have hld : wr0.cell? ⟨i, 0, none⟩ = some (.slice (some ⟨bb, bo, none⟩) l.length c) := cell_in hI.out.cells 0
              rw [hL'.out] at hld
              go_wp2_with (
                ((with_reducible refine at_store 36 ?_); refine at_staddr 36 i 4 rfl ?_; go_loud (refine wpList_plain rfl fun K hK => wp_store1 36 _ _ rfl i 4 rfl (.int .i64 5) rfl rfl sz_errno _ _ hI.out.cells (by simp [inD]) (fun W2 hC2 hx2 => hK _ _ ?_)); clear hK K))
              refine ret_noneR rfl rfl ⟨rfl, ⟨ns.take j, u, hI.out.setU hx2 hC2, ?_⟩, hA.out.trans hx2⟩
              have h5 := own_apart (own_weak hO.out hiz) hx2 (Nat.lt_succ_self i)
              rwa [show (ns.take j).length = j by rw [List.length_take]; omega]
            · have t3 : decide ((nj : Int) < (la : Int)) = false := by simp; omega
              by_cases q2 : L < nj
              · have t4 : decide ((L : Int) < (nj : Int)) = true := by simp; omega
                have hng := Lib.hid (show ¬ offGood hd L ns k from fun h => h j hlt (Or.inr (Or.inr (by rw [hnj]; exact q2))))
                have n1 : la ≤ nj := by omega
                have n2 : L < nj := q2
                clear q1 q2 hla2
                have hld : wr0.cell? ⟨i, 0, none⟩ = some (.slice (some ⟨bb, bo, none⟩) l.length c) := cell_in hI.out.cells 0
                rw [hL'.out] at hld
                go_wp2_with (
                  ((with_reducible refine at_store 36 ?_); refine at_staddr 36 i 4 rfl ?_; go_loud (refine wpList_plain rfl fun K hK => wp_store1 36 _ _ rfl i 4 rfl (.int .i64 5) rfl rfl sz_errno _ _ hI.out.cells (by simp [inD]) (fun W2 hC2 hx2 => hK _ _ ?_)); clear hK K))
                refine ret_noneR rfl rfl ⟨rfl, ⟨ns.take j, u, hI.out.setU hx2 hC2, ?_⟩, hA.out.trans hx2⟩
                have h5 := own_apart (own_weak hO.out hiz) hx2 (Nat.lt_succ_self i)
                rwa [show (ns.take j).length = j by rw [List.length_take]; omega]
              · have t4 : decide ((L : Int) < (nj : Int)) = false := by simp; omega
                have n1 : la ≤ nj := by omega
                have n2 : nj ≤ L := by omega
                have hng := Lib.hid (show offGood hd L ns (j + 1) from off_step hgood (by unfold offBad; rw [hnj, if_neg j0, ← hla2]; omega))
                have hq1 := Lib.hid q1
                have hq2 := Lib.hid q2
                have hl2 := Lib.hid hla2
                clear q1 q2 hla2
                have hld : wr0.cell? ⟨i, 0, none⟩ = some (.slice (some ⟨bb, bo, none⟩) l.length c) := cell_in hI.out.cells 0
                rw [hL'.out] at hld
                have hw8 := Lib.hid hO.out
                go_wp2_with (first
                  | ((with_reducible refine at_load 82 ?_); refine at_ldaddr 82 i 2 rfl ?_; go_loud (refine wpList_value (by rfl) _ (run_load_cell _ 82 _ (by rfl) ⟨i, 2, none⟩ (by rfl) u (cell_in hI.out.cells 2) _ Tryd.underlying82 rfl) ?_))
                  | ((with_reducible refine at_bslice 82 ?_); go_loud (refine wpList_plain rfl fun K hK => wp_ran _ (run_bslice_int _ _ (by rfl) (nj : Int) (by rfl)) (hK _ _ ?_)); clear hK K)
                  | ((with_reducible refine at_app 82 ?_); go_loud (refine wpList_plain rfl fun K hK => wp_appS (w0 := wr0) (n0 := w.heap.size) (.tmp 71) (.tmp 73) 82 3 rfl Tryd.underlying82 (.int .i64 0) 1 8 info_int rfl (by decide) w.heap.size j u _ rfl (own_later hO.out ((Below.refl _ _).alloc (Nat.le_refl _) _)) ⟨wr0.heap.size, 0, none⟩ 1 1 rfl [.int .i64 (nj : Int)] rfl (range_whole (heap_new _ _ _ _ rfl)) rfl (by simp [Value.oneCell']) (by omega) (by omega) (by rw [World.size_alloc]; have := hA.out.size; omega) (Nat.le_refl _) ((Below.refl _ _).alloc hA.out.size _) (fun v1 W1 h1 b1 z1 o1 q1 => hK _ _ ?_)); clear hK K
                     obtain ⟨va1, c1, e1, _⟩ := own_form h1
                     subst e1
                     have h1' := Lib.hid h1
                     have b1' := Lib.hid b1
                     have hap := Lib.hid (show Apart i w W1 from ⟨b1.os.trans hA.out.os, b1.tape.trans hA.out.tape, b1.output.trans hA.out.output, Nat.le_trans hA.out.size b1.size, fun b hb hbi => (b1.block b hb).trans (hA.out.block b hb hbi)⟩)
                     have hC1 := Lib.hid ((b1.block i (by omega)).trans hI.out.cells)
                     clear h1 b1 z1 o1 q1)
                  | ((with_reducible refine at_store 82 ?_); refine at_staddr 82 i 2 rfl ?_; go_loud (refine wpList_plain rfl fun K hK => wp_store1 82 _ _ rfl i 2 rfl (.slice va1 (j + 1) c1) rfl rfl sz_is _ _ hC1.out (by simp [inD]) (fun W2 hC2 hx2 => hK _ _ ?_)); clear hK K))
                have hO2 : W2.ownsRow w.heap.size 3 1 (.slice va1 (j + 1) c1) (j + 1) ((ns.take (j + 1)).map fun n : Nat => Value.int .i64 (n : Int)) := by
                  have h5 := own_apart h1'.out hx2 (by omega)
                  rw [take_snocN ns 0 j (by omega), hnj, List.map_append]
                  exact h5
                refine ⟨⟨j + 1, .slice va1 (j + 1) c1, by omega, by go_num, by rw [if_neg (by omega), Nat.add_sub_cancel, hnj], hng.out, hI0.out.setU (hap.out.trans hx2) hC2, hO2, hap.out.trans hx2⟩, by simp [intOf]; omega⟩
    · have e : j = k := by omega
      subst e
      exact absurd hgood hg.out
end Go.Proofs.YtihelknkcomjpaaDoor
namespace Go.Proofs.YtihelknkcomjpaaDoor
open Go.RowKit BigFrame
set_option maxRecDepth 100000
/-- The result's box, the struct's box, the In behind them. -/
structure RdO (n : Nat) (Z C : Array Value) (t : TypeId) (offs : List Nat) (nx : Nat) (l : List Int) (va : Option Addr) (c at' err : Nat) (w W : World) : Prop where
  hR : W.heap[n]? = some (.cells Z t (0, 0))
  hX : W.heap[n + 1]? = some (.cells C t (0, 0))
  hI : InO offs nx (n + 1 + 1) l va c at' err W
  hB : Below n w W
  hva : ∀ ad, va = some ad → ad.block < n
section
variable {n : Nat} {Z C : Array Value} {t : TypeId} {offs : List Nat} {nx : Nat} {l : List Int} {va : Option Addr} {c at' err : Nat} {w W W' : World}
theorem RdO.size (h : RdO n Z C t offs nx l va c at' err w W) : n + 3 ≤ W.heap.size := h.hI.size
theorem RdO.after (h : RdO n Z C t offs nx l va c at' err w W) (hb : Below W.heap.size W W') : RdO n Z C t offs nx l va c at' err w W' := by
  have hs := h.size
  exact ⟨(hb.block n (by omega)).trans h.hR, (hb.block (n + 1) (by omega)).trans h.hX, h.hI.later hb, h.hB.trans (hb.mono (by omega)), h.hva⟩
theorem RdO.drew (h : RdO n Z C t offs nx l va c at' err w W) (k : Nat) : RdO n Z C t offs nx l va c at' err w { W with drawn := k } := h.after ⟨rfl, rfl, rfl, Nat.le_refl _, fun _ _ => rfl⟩
theorem RdO.step {offs' : List Nat} {nx' at2 err2 : Nat} (h : RdO n Z C t offs nx l va c at' err w W) (hI : InO offs' nx' (n + 1 + 1) l va c at2 err2 W') (hA : Apart (n + 1 + 1) W W') : RdO n Z C t offs' nx' l va c at2 err2 w W' := by
  have hs := h.size
  exact ⟨(hA.block n (by omega) (by omega)).trans h.hR, (hA.block (n + 1) (by omega) (by omega)).trans h.hX, hI, hA.below h.hB (by omega) (by omega), h.hva⟩
theorem RdO.setX {C' : Array Value} (h : RdO n Z C t offs nx l va c at' err w W) (hA : Apart (n + 1) W W') (hC : W'.heap[n + 1]? = some (.cells C' t (0, 0))) : RdO n Z C' t offs nx l va c at' err w W' := by
  have hs := h.size
  obtain ⟨u, h1, h2⟩ := h.hI.ex
  refine ⟨(hA.block n (by omega) (by omega)).trans h.hR, hC, ⟨u, ⟨(hA.block (n + 1 + 1) (by omega) (by omega)).trans h1.cells, ⟨fun j hj => ?_, h1.row.ok⟩, h1.low, h1.cap, h1.nil, h1.few⟩, own_apart h2 hA (by omega)⟩, hA.below h.hB (by omega) (by omega), h.hva⟩
  obtain ⟨b, o, e, hc⟩ := h1.row.cell j hj
  have hb := h.hva _ e
  exact ⟨b, o, e, (hA.cell (p := ⟨b, o + j, none⟩) (block_lt_of_cell hc) (show b ≠ n + 1 by simp only at hb; omega)).trans hc⟩
theorem RdO.errno (h : RdO n Z C t offs nx l va c at' err w W) : W.cell? ⟨n + 1 + 1, 4, none⟩ = some (.int .i64 (err : Int)) := h.hI.errno
theorem RdO.row (h : RdO n Z C t offs nx l va c at' err w W) : Row W va .u8 l := by
  obtain ⟨u, h1, _⟩ := h.hI.ex
  exact h1.row
theorem RdO.open (k hd : Nat) (x : Int) (hx : x = (hd : Int)) (hk : l.length = k) (m : Nat) (y : Int) (hy : y = (m : Int)) (hm : 0 < m) (he : (if hd ≤ k then 0 else 4) = err) (hhd : hd ≤ 1000000) (hl : Row w va .u8 l) (hc : l.length ≤ c) (hn : va = none → c = 0) (hlow2 : ∀ ad, va = some ad → ad.block < w.heap.size) (hfew : l.length ≤ 70368744177664) :
    Calls Tryd.prog 49 #[.slice va k c, .int .i64 x, .int .i64 y] ((w.alloc (.cells Z t)).alloc (.cells Z t)) fun e w' => e = .returned (.pointer (some ⟨w.heap.size + 1 + 1, 0, none⟩)) ∧ RdO w.heap.size Z Z t [] 0 l va c 0 err w w' ∧ InW (w.heap.size + 1 + 1) l va c 0 err w' := by
  subst hx
  subst hy
  subst hk
  subst he
  have hb : Below w.heap.size w ((w.alloc (.cells Z t)).alloc (.cells Z t)) := ((Below.refl _ _).alloc (Nat.le_refl _) _).alloc (by simp) _
  refine (openO_any l va c hd m _ (hl.later hb) hc hn (fun ad e => Nat.lt_of_lt_of_le (hlow2 ad e) hb.size) hhd hm hfew).mono fun _ _ ⟨h1, h2, h3⟩ => ⟨by rw [h1]; simp, ⟨?_, ?_, InO.of (by simpa using h2), hb.trans (h3.mono (by simp; omega)), hlow2⟩, by simpa using h2⟩
  · exact (h3.block _ (by simp; omega)).trans (heap_past _ _ _ _ (heap_new _ _ _ _ rfl))
  · exact (h3.block _ (by simp)).trans (heap_new _ _ _ _ (by simp))
theorem RdO.offs0 (h : RdO n Z C t offs nx l va c at' err w W) (he : err ≠ 0) (x : Int) (ad : Option Addr) (k cs : Nat) :
    Calls Tryd.prog 74 #[.pointer (some ⟨n + 1 + 1, 0, none⟩), .int .i64 x, .slice ad k cs] W fun e w' => e = .returned (.tuple #[]) ∧ RdO n Z C t offs nx l va c at' err w w' := by
  obtain ⟨u, h1, _⟩ := h.hI.ex
  exact (in_offsets0 (n + 1 + 1) l va c at' err x ad k cs W h1 he).mono fun _ _ ⟨h2, h3⟩ => ⟨h2, by subst h3; exact h⟩
theorem RdO.offsG (h : RdO n Z C t [] 0 l va c 0 0 w W) (h1 : InW (n + 1 + 1) l va c 0 0 W) (hd gs k cs : Nat) (x : Int) (hx : x = (hd : Int)) (ps : List Nat) (hpos : 0 < l.length) (hk1 : ps.length = k) (hk : k ≤ 100) (hhd : hd ≤ l.length)
    (hps0 : ∀ j, j < k → W.cell? ⟨gs, j, none⟩ = some (.int .i64 ((ps.getD j 0 : Nat) : Int))) (hgs : gs < W.heap.size) (hgi : n + 1 + 1 < gs) (hin0 : ∀ j, j < k → ps.getD j 0 + 4 ≤ l.length) (hg0 : offGood hd l.length (ps.map (offL l)) k) :
    Calls Tryd.prog 74 #[.pointer (some ⟨n + 1 + 1, 0, none⟩), .int .i64 x, .slice (some ⟨gs, 0, none⟩) k cs] W fun e w' => e = .returned (.tuple #[]) ∧ RdO n Z C t (ps.map (offL l) ++ [l.length]) 0 l va c 0 0 w w' := by
  subst hx
  exact (in_offsetsG (n + 1 + 1) l va c hd gs k cs ps W h1 hpos hk1 hk hhd hps0 hgs (by omega) hin0 hg0).mono fun _ _ ⟨h3, h4, h5⟩ => ⟨h3, h.step h4 h5⟩
theorem RdO.offsB (h : RdO n Z C t [] 0 l va c 0 0 w W) (h1 : InW (n + 1 + 1) l va c 0 0 W) (hd gs k cs : Nat) (x : Int) (hx : x = (hd : Int)) (ps : List Nat) (hpos : 0 < l.length) (hk1 : ps.length = k) (hk : k ≤ 100) (hhd : hd ≤ l.length)
    (hps0 : ∀ j, j < k → W.cell? ⟨gs, j, none⟩ = some (.int .i64 ((ps.getD j 0 : Nat) : Int))) (hgs : gs < W.heap.size) (hgi : n + 1 + 1 < gs) (hin0 : ∀ j, j < k → ps.getD j 0 + 4 ≤ l.length) (hg0 : ¬ offGood hd l.length (ps.map (offL l)) k) :
    Calls Tryd.prog 74 #[.pointer (some ⟨n + 1 + 1, 0, none⟩), .int .i64 x, .slice (some ⟨gs, 0, none⟩) k cs] W fun e w' => e = .returned (.tuple #[]) ∧ ∃ offs, RdO n Z C t offs 0 l va c 0 5 w w' := by
  subst hx
  exact (in_offsetsB (n + 1 + 1) l va c hd gs k cs ps W h1 hpos hk1 hk hhd hps0 hgs (by omega) hin0 hg0).mono fun _ _ ⟨h3, ⟨offs, h4⟩, h5⟩ => ⟨h3, offs, h.step h4 h5⟩
theorem RdO.later (h : RdO n Z C t offs nx l va c at' 0 w W) (hnx : nx + 1 < offs.length) (hno : offs.length ≤ 1000) (a b : Nat) (ha : offs.getD nx 0 = a) (hb : offs.getD (nx + 1) 0 = b) (hab : a ≤ b) (hbl : b ≤ l.length) (hpos : 0 < l.length) (hat : at' ≤ 1000000) (k : Nat) (hk : b - a = k) :
    Calls Tryd.prog 75 #[.pointer (some ⟨n + 1 + 1, 0, none⟩)] W fun e w' => ∃ vb cb, e = .returned (.slice vb k cb) ∧ SlB vb cb ((l.drop a).take k) w' ∧ ((l.drop a).take k).length = k ∧ RdO n Z C t offs (nx + 1) l va c (at' + 4) 0 w w' := by
  subst hk
  have hl : ((l.drop a).take (b - a)).length = b - a := by rw [List.length_take, List.length_drop]; omega
  exact (in_later (n + 1 + 1) l va c at' W h.hI hnx hno a b ha hb hab hbl hpos hat).mono fun _ W' ⟨⟨bb, o, c', h1, h2, h3, h4⟩, h5, h6⟩ => ⟨_, c', h1, ⟨h4, (fun e => by cases e), by rw [hl]; exact h2, fun b' o' e => by cases e; have := h5.size; omega⟩, hl, h.step h5 h6⟩
theorem RdO.later0 (h : RdO n Z C t offs nx l va c at' err w W) (he : err ≠ 0) :
    Calls Tryd.prog 75 #[.pointer (some ⟨n + 1 + 1, 0, none⟩)] W fun e w' => e = .returned (.slice none 0 0) ∧ RdO n Z C t offs nx l va c at' err w w' := by
  obtain ⟨u, h1, _⟩ := h.hI.ex
  exact (in_later0 (n + 1 + 1) l va c at' err W h1 he).mono fun _ _ ⟨h2, h3⟩ => ⟨h2, by subst h3; exact h⟩
theorem RdO.fail (h : RdO n Z C t offs nx l va c at' err w W) (er er2 : Nat) (x : Int) (hx : x = (er : Int)) (he : (if err = 0 then er else err) = er2) :
    Calls Tryd.prog 52 #[.pointer (some ⟨n + 1 + 1, 0, none⟩), .int .i64 x] W fun e w' => e = .returned (.tuple #[]) ∧ RdO n Z C t offs nx l va c at' er2 w w' ∧ Apart (n + 1 + 1) W w' := by
  subst hx
  subst he
  exact (h.hI.fail er).mono fun _ _ ⟨h1, h2, h3⟩ => ⟨h1, h.step h2 h3, h3⟩
/-- Bytes of the head. -/
theorem RdO.bytesC (h : RdO n Z C t offs nx l va c at' err w W) (k : Nat) (x : Int) (hx : x = (k : Int)) (hk : 0 < k) (hk2 : k ≤ 100000) (hat : err = 0 → at' + k ≤ l.length) :
    Calls Tryd.prog 50 #[.pointer (some ⟨n + 1 + 1, 0, none⟩), .int .i64 x] W fun e w' => ∃ v, e = .returned v ∧ ∃ b o c' q, v = .slice (some ⟨b, o, none⟩) k c' ∧ k ≤ c' ∧ b < w'.heap.size ∧ Row w' (some ⟨b, o, none⟩) .u8 q ∧ q.length = k ∧ (err = 0 → q = (l.drop at').take k) ∧ RdO n Z C t offs nx l va c (if err = 0 then at' + k else at') err w w' ∧ Apart (n + 1 + 1) W w' := by
  subst hx
  have hl := inB_length (l := l) (at' := at') (err := err) (n := k) hat
  refine (h.hI.bytes k hk (by omega) hat).mono fun _ W' ⟨⟨va', c', h1, h2, h3, h4⟩, h5, h6⟩ => ?_
  obtain ⟨b, o, e, hc⟩ := h4.cell 0 (by omega)
  subst e
  exact ⟨_, h1, b, o, c', _, rfl, h2, block_lt_of_cell hc, h4, hl, fun e => by unfold inB; rw [if_pos e], h.step h5 h6, h6⟩
theorem splice_mid {pre mid post cs : List Value} {off : Nat} (ho : pre.length = off) (hl : cs.length = mid.length) : splice (pre ++ (mid ++ post)) off cs = pre ++ (cs ++ post) := by
  subst ho
  apply List.ext_getElem?
  intro j
  rw [splice_get (by simp; omega)]
  by_cases c1 : j < pre.length
  · rw [if_pos c1, List.getElem?_append_left c1, List.getElem?_append_left c1]
  · have e1 : (pre ++ (mid ++ post))[j]? = (mid ++ post)[j - pre.length]? := List.getElem?_append_right (by omega)
    have e2 : (pre ++ (cs ++ post))[j]? = (cs ++ post)[j - pre.length]? := List.getElem?_append_right (by omega)
    rw [if_neg c1, e1, e2]
    by_cases c2 : j < pre.length + cs.length
    · rw [if_pos c2, List.getElem?_append_left (by omega)]
    · rw [if_neg c2, List.getElem?_append_right (by omega), List.getElem?_append_right (by omega), hl]
/-- Bytes are copied into a field. -/
theorem wp_copy_X {o : Oper} {a : Act} {K : Act → World → Prop} {Q : Exit → Act → World → Prop} (d s : Operand) (ho : o.op = .call { callee := .builtin .copy, args := #[d, s], argTypes := #[34, 34] }) (off k b bo c' dCap : Nat) (hd : a.eval d = .slice (some ⟨n + 1, off, none⟩) k dCap) (hs : a.eval s = .slice (some ⟨b, bo, none⟩) k c')
    (h : RdO n Z C t offs nx l va c at' err w W) (pre post : List Value) (g : Nat → Int) (hC : C = (pre ++ (fcells k (fun _ => .u8) g ++ post)).toArray) (hp : pre.length = off) (q : List Int) (hq : Row W (some ⟨b, bo, none⟩) .u8 q) (hql : q.length = k)
    (h2 : ∀ W', RdO n Z (pre ++ (fcells k (fun _ => .u8) (fun j => q.getD j 0) ++ post)).toArray t offs nx l va c at' err w W' → Apart (n + 1) W W' → K (a.put o.dst (goInt k)) W') : o.wp Tryd.prog a W K Q := by
  have hcs : (fcells k (fun _ => .u8) fun j => q.getD j 0).length = k := fcells_length _ _ _
  refine wp_copy_gen d s 34 34 ho 5 Tryd.underlying34 sz_u8 (n + 1) off b bo k dCap k c' hd hs _ t h.hX (fcells k (fun _ => .u8) fun j => q.getD j 0) (by rw [hcs]; exact (Nat.min_self k).symm) (fun j v hv => ?_) (by subst hC; simp [fcells]; omega) fcells_mem (fun W' hC2 hA => ?_)
  · have hj : j < k := by have := (List.getElem?_eq_some_iff.1 hv).1; rwa [hcs] at this
    obtain ⟨b', o', e, hc⟩ := hq.cell j (by omega)
    cases e
    rw [fcells_get _ _ _ _ hj] at hv
    rw [hc]
    exact hv
  · rw [hcs]
    subst hC
    rw [show (pre ++ (fcells k (fun _ => .u8) g ++ post)).toArray.toList = pre ++ (fcells k (fun _ => .u8) g ++ post) from rfl, splice_mid hp (by rw [hcs, fcells_length])] at hC2
    exact h2 W' (h.setX hA hC2) hA
/-- A struct is stored into a field. -/
theorem wpList_rowsX {ops : Array Oper} {rest : List Oper} {o : Oper} {a : Act} {Q : Exit → Act → World → Prop} (hg : o.guard = none) (ty : TypeId) (x y : Operand) (ho : o.op = .store ty x y) (off : Nat) (hx : a.eval x = .pointer (some ⟨n + 1, off, none⟩)) (vs : List Value) (hy : a.eval y = .agg vs.toArray) (hz : (Tryd.prog.info? ty).map (·.size) = some vs.length) (h1 : ∀ v ∈ vs, v.oneCell' = true)
    (h : RdO n Z C t offs nx l va c at' err w W) (pre mid post : List Value) (hC : C = (pre ++ (mid ++ post)).toArray) (hp : pre.length = off) (hl : vs.length = mid.length) (hk : ∀ W', RdO n Z (pre ++ (vs ++ post)).toArray t offs nx l va c at' err w W' → Apart (n + 1) W W' → wpList Tryd.prog ops Q rest (a.put o.dst undef) W') : wpList Tryd.prog ops Q (o :: rest) a W := by
  subst hC
  have ht : W.there (n + 1) off vs.toArray.size := fun j hj => by
    have hj : j < vs.length := by simpa using hj
    refine ⟨?_, Joins.unfrozen_of_block h.hX _⟩
    rw [cell_of_row W (n + 1) _ _ _ _ h.hX, List.getElem?_toArray, List.getElem?_append_right (by omega), List.getElem?_append_left (by omega), List.getElem?_eq_getElem (by omega)]
    rfl
  refine wpList_plain hg fun Kc hKc => wp_store_mid ty x y ho (n + 1) off _ hx hy ht (by rw [hz]; simp) (by simpa using h1) (hKc _ _ (hk _ ?_ ?_))
  · have hA : Apart (n + 1) W (W.setCells (n + 1) off vs.toArray.toList) := (Apart.refl _ _).setCells _ _ _ (Or.inl rfl)
    have hC := setCells_list (n + 1) vs.toArray.toList off W _ t h.hX (by simp; omega)
    rw [show (pre ++ (mid ++ post)).toArray.toList = pre ++ (mid ++ post) from rfl, show vs.toArray.toList = vs from rfl, splice_mid hp hl] at hC
    exact h.setX hA hC
  · exact (Apart.refl _ _).setCells _ _ _ (Or.inl rfl)
end
end Go.Proofs.YtihelknkcomjpaaDoor
