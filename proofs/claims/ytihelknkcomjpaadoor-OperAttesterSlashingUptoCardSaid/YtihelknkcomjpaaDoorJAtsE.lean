/- What any bytes are read as, as an attester's slashing: by the program. -/
/- What any bytes are read as, as an attester's slashing: by the program, where the first part is read. -/
/- What any bytes are read as, as an attester's slashing: by the reference. -/
import Derived.Test.YtihelknkcomjpaaDoorJAtsB
set_option linter.unusedVariables false
set_option linter.unusedSimpArgs false
set_option linter.unnecessarySimpa false
namespace Go.Proofs.YtihelknkcomjpaaDoor
open Go.RowKit BigFrame
set_option maxRecDepth 100000
def Ix0 : Ix := ⟨[], fun _ => 0, fun _ => 0⟩
def nilS : Value := .slice none 0 0
/-- Its list stands, in memory from base on. -/
def Ix.own (a : Ix) (s : Value) (base : Nat) (W : World) : Prop := ∃ va c, s = .slice va a.who.length c ∧ Row W va .u64 a.who ∧ ∀ b o, va = some ⟨b, o, none⟩ → base ≤ b ∧ b < W.heap.size
theorem Ix.own.at {a : Ix} {s : Value} {base : Nat} {W : World} (h : a.own s base W) : a.at s W := by
  obtain ⟨va, c, e, h1, _⟩ := h
  exact ⟨va, c, e, h1⟩
theorem Ix.own.later {a : Ix} {s : Value} {base : Nat} {W W' : World} (h : a.own s base W) (hb : Below W.heap.size W W') : a.own s base W' := by
  obtain ⟨va, c, e, h1, h2⟩ := h
  exact ⟨va, c, e, h1.later hb, fun b o e => ⟨(h2 b o e).1, Nat.lt_of_lt_of_le (h2 b o e).2 hb.size⟩⟩
theorem Ix.own.apart {a : Ix} {s : Value} {base k : Nat} {W W' : World} (h : a.own s base W) (hA : Apart k W W') (hk : k < base) : a.own s base W' := by
  obtain ⟨va, c, e, h1, h2⟩ := h
  refine ⟨va, c, e, ⟨fun i hi => ?_, h1.ok⟩, fun b o e => ⟨(h2 b o e).1, Nat.lt_of_lt_of_le (h2 b o e).2 hA.size⟩⟩
  obtain ⟨b, o, e1, hc⟩ := h1.cell i hi
  have := h2 b o e1
  exact ⟨b, o, e1, (hA.cell (p := ⟨b, o + i, none⟩) this.2 (show b ≠ k by omega)).trans hc⟩
theorem Ix.own.weak {a : Ix} {s : Value} {base base' : Nat} {W : World} (h : a.own s base W) (hb : base' ≤ base) : a.own s base' W := by
  obtain ⟨va, c, e, h1, h2⟩ := h
  exact ⟨va, c, e, h1, fun b o e => ⟨Nat.le_trans hb (h2 b o e).1, (h2 b o e).2⟩⟩
theorem own0 (base : Nat) (W : World) : Ix0.own nilS base W := ⟨none, 0, rfl, row_nil, fun b o e => by cases e⟩
abbrev Ix.rd (l : List Int) (e : Nat) (a : Ix) : Prop := IdxRd l e a.who a.fd a.fs
theorem ix_read (l : List Int) (eI : Nat) (a : Ix) (hR : Ix.rd l eI a) (va : Option Addr) (c : Nat) (w : World) (hs : SlB va c l w) (hlow : ∀ ad, va = some ad → ad.block < w.heap.size) (hfew : l.length ≤ 70368744177664) :
    Calls Tryd.prog 25 #[.slice va l.length c] w fun e w' => (∃ s, e = .returned (.tuple #[.agg (a.cells s).toArray, .int .i64 (eI : Int)]) ∧ a.own s w.heap.size w') ∧ Below w.heap.size w w' := by
  rcases hR with ⟨h0, h1, h2, h3, h⟩ | ⟨rfl, k, hl, hk, ho, h1, h2, h3⟩
  · have ea : a = Ix0 := by cases a; cases h1; cases h2; cases h3; rfl
    subst ea
    have key : ∀ e' : Ending, e' = .returned (.tuple #[.agg (idxC (.slice none 0 0) (fun _ => 0) (fun _ => 0)).toArray, .int .i64 (eI : Int)]) → ∀ w', ∃ s, e' = .returned (.tuple #[.agg (Ix0.cells s).toArray, .int .i64 (eI : Int)]) ∧ Ix0.own s w.heap.size w' := fun e' he w' => ⟨nilS, he, own0 _ _⟩
    rcases h with ⟨h1, rfl⟩ | ⟨h1, h2, rfl⟩ | ⟨h1, h2, h3⟩
    · exact (readIdx_short l l.length va c w hs rfl hlow h1).mono fun e w' ⟨he, hb⟩ => ⟨key e he w', hb⟩
    · exact (readIdx_form l l.length va c w hs rfl hlow h1 hfew h2).mono fun e w' ⟨he, hb⟩ => ⟨key e he w', hb⟩
    · exact (readIdx_each l l.length va c w hs rfl hlow h1 hfew h2 eI h3 h0).mono fun e w' ⟨he, hb⟩ => ⟨key e he w', hb⟩
  · refine (readIdx_ok l l.length k va c w hs rfl hl hk ho).mono fun e w' ⟨⟨vn, cn, he, hO⟩, hb⟩ => ⟨?_, hb⟩
    obtain ⟨k1, k2⟩ := rowU_of_own hO (numsR_ok (by rw [List.length_drop, hl]; omega) (fun x hx => hs.row.ok x (List.mem_of_mem_drop hx)))
    have hlow := hO.lt
    obtain ⟨who, fd, fs⟩ := a
    simp only at h1 h2 h3
    subst h1
    subst h2
    subst h3
    exact ⟨.slice vn k cn, he, vn, cn, by rw [numsR_length], k1, fun b o e => by subst e; exact hlow b rfl⟩
theorem rix_read (l : List Int) (eI : Nat) (a : Ix) (hR : Ix.rd l eI a) (va : Option Addr) (c : Nat) (w : World) (hs : SlB va c l w) (hfew : l.length ≤ 70368744177664) :
    Calls Tryd.prog 26 #[.slice va l.length c] w fun e w' => (∃ s, e = .returned (.tuple #[.agg (a.cells s).toArray, .int .i64 (eI : Int)]) ∧ a.own s w.heap.size w') ∧ Below w.heap.size w w' := by
  rcases hR with ⟨h0, h1, h2, h3, h⟩ | ⟨rfl, k, hl, hk, ho, h1, h2, h3⟩
  · have ea : a = Ix0 := by cases a; cases h1; cases h2; cases h3; rfl
    subst ea
    have key : ∀ e' : Ending, e' = .returned (.tuple #[.agg (idxC (.slice none 0 0) (fun _ => 0) (fun _ => 0)).toArray, .int .i64 (eI : Int)]) → ∀ w', ∃ s, e' = .returned (.tuple #[.agg (Ix0.cells s).toArray, .int .i64 (eI : Int)]) ∧ Ix0.own s w.heap.size w' := fun e' he w' => ⟨nilS, he, own0 _ _⟩
    rcases h with ⟨h1, rfl⟩ | ⟨h1, h2, rfl⟩ | ⟨h1, h2, h3⟩
    · exact (rreadIdx_short l l.length va c w hs rfl h1).mono fun e w' ⟨he, hb⟩ => ⟨key e he w', hb⟩
    · exact (rreadIdx_form l l.length va c w hs rfl h1 hfew h2).mono fun e w' ⟨he, hb⟩ => ⟨key e he w', hb⟩
    · exact (rreadIdx_each l l.length (l.length-228) va c w hs rfl (by omega) hfew h2 eI h3 h0).mono fun e w' ⟨he, hb⟩ => ⟨key e he w', hb⟩
  · refine (rreadIdx_ok l l.length k va c w hs rfl hl hk ho).mono fun e w' ⟨⟨vn, cn, he, hO⟩, hb⟩ => ⟨?_, hb⟩
    obtain ⟨k1, k2⟩ := rowU_of_own hO (numsR_ok (by rw [List.length_drop, hl]; omega) (fun x hx => hs.row.ok x (List.mem_of_mem_drop hx)))
    have hlow := hO.lt
    obtain ⟨who, fd, fs⟩ := a
    simp only at h1 h2 h3
    subst h1
    subst h2
    subst h3
    exact ⟨.slice vn k cn, he, vn, cn, by rw [numsR_length], k1, fun b o e => by subst e; exact hlow b rfl⟩
/-- The parts of a slashing's bytes. -/
def atsP (l : List Int) : List Int := (l.drop 8).take (offL l 4 - 8)
def atsQ (l : List Int) : List Int := (l.drop (offL l 4)).take (l.length - offL l 4)
/-- What these bytes are read as. -/
def AtsRd (l : List Int) (eI : Nat) (a b : Ix) : Prop :=
  (eI ≠ 0 ∧ a = Ix0 ∧ b = Ix0 ∧ (l.length < 8 ∧ eI = 4 ∨ 8 ≤ l.length ∧ ¬ offGood 8 l.length [offL l 0, offL l 4] 2 ∧ eI = 5 ∨
    8 ≤ l.length ∧ offGood 8 l.length [offL l 0, offL l 4] 2 ∧ (Ix.rd (atsP l) eI Ix0 ∨ ∃ a', Ix.rd (atsP l) 0 a' ∧ Ix.rd (atsQ l) eI Ix0))) ∨
  (eI = 0 ∧ 8 ≤ l.length ∧ offGood 8 l.length [offL l 0, offL l 4] 2 ∧ Ix.rd (atsP l) 0 a ∧ Ix.rd (atsQ l) 0 b)
theorem ixRd_some (l : List Int) : ∃ e a, Ix.rd l e a := by
  obtain ⟨e, who, fd, fs, h⟩ := idxRd_some l
  exact ⟨e, ⟨who, fd, fs⟩, h⟩
theorem ixRd_err {l : List Int} {e : Nat} {a : Ix} (h : Ix.rd l e a) (h0 : e ≠ 0) : a = Ix0 := by
  rcases h with ⟨_, h1, h2, h3, _⟩ | ⟨h1, _⟩
  · cases a; cases h1; cases h2; cases h3; rfl
  · exact absurd h1 h0
theorem atsRd_some (l : List Int) : ∃ eI a b, AtsRd l eI a b := by
  by_cases c1 : l.length < 8
  · exact ⟨4, Ix0, Ix0, Or.inl ⟨by decide, rfl, rfl, Or.inl ⟨c1, rfl⟩⟩⟩
  · by_cases c2 : offGood 8 l.length [offL l 0, offL l 4] 2
    · obtain ⟨e1, a, h1⟩ := ixRd_some (atsP l)
      by_cases z1 : e1 = 0
      · subst z1
        obtain ⟨e2, b, h2⟩ := ixRd_some (atsQ l)
        by_cases z2 : e2 = 0
        · subst z2
          exact ⟨0, a, b, Or.inr ⟨rfl, by omega, c2, h1, h2⟩⟩
        · have := ixRd_err h2 z2
          subst this
          exact ⟨e2, Ix0, Ix0, Or.inl ⟨z2, rfl, rfl, Or.inr (Or.inr ⟨by omega, c2, Or.inr ⟨a, h1, h2⟩⟩)⟩⟩
      · have := ixRd_err h1 z1
        subst this
        exact ⟨e1, Ix0, Ix0, Or.inl ⟨z1, rfl, rfl, Or.inr (Or.inr ⟨by omega, c2, Or.inl h1⟩)⟩⟩
    · exact ⟨5, Ix0, Ix0, Or.inl ⟨by decide, rfl, rfl, Or.inr (Or.inl ⟨by omega, c2, rfl⟩)⟩⟩
theorem ats_offs {l : List Int} (h8 : 8 ≤ l.length) (h : offGood 8 l.length [offL l 0, offL l 4] 2) : offL l 0 = 8 ∧ 8 ≤ offL l 4 ∧ offL l 4 ≤ l.length := by
  have h0 := h 0 (by decide)
  have h1 := h 1 (by decide)
  unfold offBad at h0 h1
  simp at h0 h1
  omega
theorem SlB.lowO {g o c : Nat} {l : List Int} {W : World} (h : SlB (some ⟨g, o, none⟩) c l W) : ∀ ad, some (⟨g, o, none⟩ : Addr) = some ad → ad.block < W.heap.size := fun ad e => by
  cases e
  exact h.low g o rfl
theorem RdO.laterS {n : Nat} {Z C : Array Value} {t : TypeId} {offs : List Nat} {nx : Nat} {l : List Int} {va : Option Addr} {c at' : Nat} {w W : World} (h : RdO n Z C t offs nx l va c at' 0 w W) (hnx : nx + 1 < offs.length) (hno : offs.length ≤ 1000) (a b : Nat) (ha : offs.getD nx 0 = a) (hb : offs.getD (nx + 1) 0 = b) (hab : a ≤ b) (hbl : b ≤ l.length) (hpos : 0 < l.length) (hat : at' ≤ 1000000) (q : List Int) (hq : (l.drop a).take (b - a) = q) :
    Calls Tryd.prog 75 #[.pointer (some ⟨n + 1 + 1, 0, none⟩)] W fun e w' => ∃ bb o cb, e = .returned (.slice (some ⟨bb, o, none⟩) q.length cb) ∧ SlB (some ⟨bb, o, none⟩) cb q w' ∧ RdO n Z C t offs (nx + 1) l va c (at' + 4) 0 w w' := by
  subst hq
  have hl : ((l.drop a).take (b - a)).length = b - a := by rw [List.length_take, List.length_drop]; omega
  exact (in_later (n + 1 + 1) l va c at' W h.hI hnx hno a b ha hb hab hbl hpos hat).mono fun _ W' ⟨⟨bb, o, c', h1, h2, h3, h4⟩, h5, h6⟩ => ⟨bb, o, c', by rw [hl]; exact h1, ⟨h4, (fun e => by cases e), by rw [hl]; exact h2, fun b' o' e => by cases e; have := h5.size; omega⟩, h.step h5 h6⟩
/-- The cells of a slashing, its lists standing. -/
def RepAts (a b : Ix) (Y : Array Value) (W : World) : Prop := ∃ s t, Y = (atsC a b s t).toArray ∧ a.at s W ∧ b.at t W
theorem RepAts.later {a b : Ix} (Y : Array Value) (W W' : World) (h : RepAts a b Y W) (hb : Below W.heap.size W W') : RepAts a b Y W' := by
  obtain ⟨s, t, e, h1, h2⟩ := h
  exact ⟨s, t, e, h1.later hb, h2.later hb⟩
theorem RepAts.size {a b : Ix} {Y : Array Value} {W : World} (h : RepAts a b Y W) : Y.size = 394 := by
  obtain ⟨s, t, rfl, _⟩ := h
  rw [List.size_toArray, atsC_length]
theorem RepAts.one {a b : Ix} {Y : Array Value} {W : World} (h : RepAts a b Y W) : Y.all (·.oneCell') = true := by
  obtain ⟨s, t, rfl, h1, h2⟩ := h
  rw [List.all_toArray, List.all_eq_true]
  intro v hv
  rcases List.mem_append.1 hv with hv | hv
  · exact Ix.one h1 v hv
  · exact Ix.one h2 v hv
def atsZ : List Value := atsC Ix0 Ix0 nilS nilS
theorem infoAts : (Tryd.prog.info? 68).map (fun i => (i.zero, i.size)) = some (some (.agg atsZ.toArray), 394) := by kernel_rfl
theorem run_build_ats0 {ρ : Operand → Value} {o : Oper} (w : World) (ho : o.op = .build 68 #[]) : (execOp ρ o).run Tryd.prog w = .ok (.value (.agg atsZ.toArray)) w := by
  have h : (Instr.build 68 #[]).run Tryd.prog w = .ok (.agg atsZ.toArray) w := by kernel_rfl
  exact run_build 68 #[] ho _ h
theorem rep_ats0 (W : World) : RepAts Ix0 Ix0 atsZ.toArray W := ⟨nilS, nilS, rfl, (own0 0 W).at, (own0 0 W).at⟩
theorem run_bslice_int2 {ρ : Operand → Value} {o : Oper} (w : World) (parts : Array (Nat × Operand)) (ho : o.op = .buildSlice 82 2 parts) (n m : Int) (hp : (parts.toList.map fun p => (p.1, ρ p.2)) = [(0, .int .i64 n), (1, .int .i64 m)]) :
    (execOp ρ o).run Tryd.prog w = .ok (.value (.slice (some ⟨w.heap.size, 0, none⟩) 2 2)) (w.alloc (.cells #[.int .i64 n, .int .i64 m] 3)) :=
  run_buildSlice w 82 3 2 parts ho Tryd.underlying82 (.int .i64 0) 1 info_i64c (by decide) (by decide) [.int .i64 n, .int .i64 m] rfl hp (fun u hu => by
    simp only [List.mem_cons, List.not_mem_nil, or_false] at hu
    rcases hu with rfl | rfl <;> rfl)
theorem two_ps (W : World) : ∀ j, j < 2 → (W.alloc (.cells #[.int .i64 (0 : Int), .int .i64 (4 : Int)] 3)).cell? ⟨W.heap.size, j, none⟩ = some (.int .i64 (([0, 4].getD j 0 : Nat) : Int)) := fun j hj => by
  have h := cell_of_row _ _ j _ _ _ (heap_new W #[.int .i64 (0 : Int), .int .i64 (4 : Int)] 3 W.heap.size rfl)
  match j, hj with
  | 0, _ => exact h
  | 1, _ => exact h
theorem two_in {m : Nat} (h : 8 ≤ m) : ∀ j, j < 2 → [0, 4].getD j 0 + 4 ≤ m := fun j hj => by
  match j, hj with
  | 0, _ => show 0 + 4 ≤ m; omega
  | 1, _ => show 4 + 4 ≤ m; omega
theorem atsZ_one : atsZ.toArray.all (·.oneCell') = true := by kernel_rfl
theorem atsC_one {a b : Ix} {s t : Value} {W : World} (h1 : a.at s W) (h2 : b.at t W) : (atsC a b s t).toArray.all (·.oneCell') = true := (show RepAts a b (atsC a b s t).toArray W from ⟨s, t, rfl, h1, h2⟩).one
set_option maxHeartbeats 16000000 in
theorem readAts_short (l : List Int) (er : Nat) (he : er = 4) (va : Option Addr) (c : Nat) (w : World) (hs0 : SlB va c l w) (hlow0 : ∀ ad, va = some ad → ad.block < w.heap.size) (hfew : l.length ≤ 70368744177664) (h8 : l.length < 8) :
    Calls Tryd.prog 31 #[.slice va l.length c] w fun e w' => (∃ Y : Array Value, e = .returned (.tuple #[.agg Y, .int .i64 (er : Int)]) ∧ Y.size = 394 ∧ Y.all (·.oneCell') = true ∧ RepAts Ix0 Ix0 Y w') ∧ Below w.heap.size w w' := by
  subst he
  have hs := Lib.hid hs0
  have hlow := Lib.hid hlow0
  clear hs0 hlow0
  obtain ⟨L, hL0⟩ : ∃ L, L = l.length := ⟨_, rfl⟩
  rw [← hL0] at hfew h8 ⊢
  have hL := Lib.hid hL0.symm
  clear hL0
  go_enter Tryd.func31, Tryd.ntmps31
  have hne : (((4 : Nat) : Int) == 0) = false := rfl
  have hne2 : (((4 : Nat) : Int) != 0) = true := rfl
  go_wp2_with (first
    | ((with_reducible refine at_alloc 68 ?_); refine wpList_plain rfl fun K hK => wp_alloc_row 68 rfl 2 rfl _ 394 infoAts (hK _ _ ?_); clear hK K)
    | ((with_reducible refine at_alloc 68 ?_); refine wpList_plain rfl fun K hK => wp_alloc_row 68 rfl 4 rfl _ 394 infoAts (hK _ _ ?_); clear hK K)
    | ((with_reducible refine (RdO.open L 8 (8 : Int) rfl hL.out 2 (2 : Int) rfl (by decide) (err := 4) (if_neg (by omega)) (by decide) hs.out.row hs.out.cap hs.out.nil hlow.out (by rw [hL.out]; exact hfew)).mono ?_)
       rintro e W ⟨rfl, hS1, hW1⟩
       have hS := Lib.hid hS1
       clear hS1 hW1)
    | ((with_reducible refine at_bslice 82 ?_); go_loud (refine wpList_plain rfl fun K hK => wp_ran _ (run_bslice_int2 _ _ (by rfl) (0 : Int) (4 : Int) (by rfl)) (hK _ _ ?_)); clear hK K
       have hS1 := hS.out.after ((Below.refl _ W).alloc (Nat.le_refl _) (.cells #[.int .i64 (0 : Int), .int .i64 (4 : Int)] 3))
       clear hS
       have hS := Lib.hid hS1
       clear hS1)
    | ((with_reducible refine (RdO.offs0 hS.out (by decide) (8 : Int) _ 2 2).mono ?_)
       rintro e W2 ⟨rfl, hS1⟩
       clear hS
       have hS := Lib.hid hS1
       clear hS1)
    | ((with_reducible refine at_load 36 ?_); go_loud (refine wpList_value (by rfl) _ (run_load_cell _ 36 _ (by rfl) ⟨w.heap.size + 1 + 1, 4, none⟩ rfl (.int .i64 ((4 : Nat) : Int)) hS.out.errno _ Tryd.underlying36 rfl) ?_)))
  rename_i K hK
  have hz10 := hS.out.size
  refine wp_region_held (S := fun w' => w'.cell? ⟨w.heap.size + 1 + 1, 4, none⟩ = some (.int .i64 ((4:Nat) : Int))) (by kernel_rfl) ?_
  have hSS : ({ W2 with drawn := W2.drawn + 1 } : World).cell? ⟨w.heap.size + 1 + 1, 4, none⟩ = some (.int .i64 ((4:Nat) : Int)) := hS.out.errno
  refine takeL (i := 0) (v := (.agg atsZ.toArray)) rfl (by kernel_rfl) (by kernel_rfl) (by kernel_rfl) (fun _ _ _ h => h) rfl (by assumption) (fun w' _ => run_build_ats0 w' rfl) ?_
  simp only [Act.put, List.setIfInBounds_toArray, List.set_cons_zero, List.set_cons_succ]
  refine takeL (i := 1) (v := (.pointer (some ⟨w.heap.size + 1 + 1, 0, none⟩))) rfl (by kernel_rfl) (by kernel_rfl) (by kernel_rfl) (fun _ _ _ h => h) rfl (by assumption) (fun w' hS' => by go_simp) ?_
  simp only [Act.put, List.setIfInBounds_toArray, List.set_cons_zero, List.set_cons_succ]
  refine takeL (i := 2) (v := (.pointer (some ⟨w.heap.size + 1 + 1, 0, none⟩))) rfl (by kernel_rfl) (by kernel_rfl) (by kernel_rfl) (fun _ _ _ h => h) rfl (by assumption) (fun w' hS' => by go_simp) ?_
  simp only [Act.put, List.setIfInBounds_toArray, List.set_cons_zero, List.set_cons_succ]
  refine takeL (i := 3) (v := (.pointer (some ⟨w.heap.size + 1 + 1, 4, none⟩))) rfl (by kernel_rfl) (by kernel_rfl) (by kernel_rfl) (fun _ _ _ h => h) rfl (by assumption) (fun w' hS' => by go_simp) ?_
  simp only [Act.put, List.setIfInBounds_toArray, List.set_cons_zero, List.set_cons_succ]
  refine takeL (i := 4) (v := (.int .i64 ((4:Nat) : Int))) rfl (by kernel_rfl) (by kernel_rfl) (by kernel_rfl) (fun _ _ _ h => h) rfl (by assumption) (fun w' hS' => run_load_cell _ 36 _ (by rfl) ⟨w.heap.size + 1 + 1, 4, none⟩ (by rfl) _ hS' _ Tryd.underlying36 rfl) ?_
  simp only [Act.put, List.setIfInBounds_toArray, List.set_cons_zero, List.set_cons_succ]
  refine oneL (i := 5) rfl (by kernel_rfl) rfl (wp_store_row 68 _ _ rfl w.heap.size rfl _ rfl atsZ_one (by rw [size_ats]; rfl) _ 68 (hS.out.drew _).hR rfl (fun W11 hC11 hA11 => ⟨(hA11.cell (p := ⟨w.heap.size + 1 + 1, 4, none⟩) (by show w.heap.size + 1 + 1 < W2.heap.size; omega) (show w.heap.size + 1 + 1 ≠ w.heap.size by omega)).trans hS.out.errno, ?_⟩))
  have hSS2 : W11.cell? ⟨w.heap.size + 1 + 1, 4, none⟩ = some (.int .i64 ((4:Nat) : Int)) := (hA11.cell (p := ⟨w.heap.size + 1 + 1, 4, none⟩) (by show w.heap.size + 1 + 1 < W2.heap.size; omega) (show w.heap.size + 1 + 1 ≠ w.heap.size by omega)).trans hS.out.errno
  clear hSS
  have hSS := hSS2
  clear hSS2
  simp only [Act.put, List.setIfInBounds_toArray, List.set_cons_zero, List.set_cons_succ]
  refine takeL (i := 6) (v := (.int .i64 ((4:Nat) : Int))) rfl (by kernel_rfl) (by kernel_rfl) (by kernel_rfl) (fun _ _ _ h => h) rfl (by assumption) (fun w' hS' => by go_simp) ?_
  simp only [Act.put, List.setIfInBounds_toArray, List.set_cons_zero, List.set_cons_succ]
  refine wpAnyH_done (by kernel_rfl) ?_ _
  simp only [Exit.then]
  refine hK _ _ ?_
  have hBW : Below w.heap.size w W11 := hA11.below (hS.out.drew _).hB (Nat.le_refl _) (by show w.heap.size ≤ W2.heap.size; omega)
  clear hSS hK K
  go_wp2
  exact ret_mid_tmp rfl w.heap.size 0 atsZ _ rfl (range_whole hC11) Tryd.underlying68 rfl (by rw [size_ats]; rfl) rfl ⟨⟨_, rfl, (rep_ats0 W11).size, (rep_ats0 W11).one, rep_ats0 W11⟩, hBW⟩
theorem ats_offbad {l : List Int} (h : ¬ offGood 8 l.length [offL l 0, offL l 4] 2) : ¬ offGood 8 l.length ([0, 4].map (offL l)) 2 := h
set_option maxHeartbeats 16000000 in
theorem readAts_form (l : List Int) (er : Nat) (he : er = 5) (va : Option Addr) (c : Nat) (w : World) (hs0 : SlB va c l w) (hlow0 : ∀ ad, va = some ad → ad.block < w.heap.size) (hfew : l.length ≤ 70368744177664) (h8 : 8 ≤ l.length) (hg0 : ¬ offGood 8 l.length [offL l 0, offL l 4] 2) :
    Calls Tryd.prog 31 #[.slice va l.length c] w fun e w' => (∃ Y : Array Value, e = .returned (.tuple #[.agg Y, .int .i64 (er : Int)]) ∧ Y.size = 394 ∧ Y.all (·.oneCell') = true ∧ RepAts Ix0 Ix0 Y w') ∧ Below w.heap.size w w' := by
  subst he
  have hg := Lib.hid (ats_offbad hg0)
  clear hg0
  have hs := Lib.hid hs0
  have hlow := Lib.hid hlow0
  clear hs0 hlow0
  obtain ⟨L, hL0⟩ : ∃ L, L = l.length := ⟨_, rfl⟩
  rw [← hL0] at hfew h8 ⊢
  have hL := Lib.hid hL0.symm
  clear hL0
  go_enter Tryd.func31, Tryd.ntmps31
  have hne : (((5 : Nat) : Int) == 0) = false := rfl
  have hne2 : (((5 : Nat) : Int) != 0) = true := rfl
  go_wp2_with (first
    | ((with_reducible refine at_alloc 68 ?_); refine wpList_plain rfl fun K hK => wp_alloc_row 68 rfl 2 rfl _ 394 infoAts (hK _ _ ?_); clear hK K)
    | ((with_reducible refine at_alloc 68 ?_); refine wpList_plain rfl fun K hK => wp_alloc_row 68 rfl 4 rfl _ 394 infoAts (hK _ _ ?_); clear hK K)
    | ((with_reducible refine (RdO.open L 8 (8 : Int) rfl hL.out 2 (2 : Int) rfl (by decide) (err := 0) (if_pos (by omega)) (by decide) hs.out.row hs.out.cap hs.out.nil hlow.out (by rw [hL.out]; exact hfew)).mono ?_)
       rintro e W ⟨rfl, hS1, hW1⟩
       have hS := Lib.hid hS1
       have hW := Lib.hid hW1
       clear hS1 hW1)
    | ((with_reducible refine at_bslice 82 ?_); go_loud (refine wpList_plain rfl fun K hK => wp_ran _ (run_bslice_int2 _ _ (by rfl) (0 : Int) (4 : Int) (by rfl)) (hK _ _ ?_)); clear hK K
       have hS1 := hS.out.after ((Below.refl _ W).alloc (Nat.le_refl _) (.cells #[.int .i64 (0 : Int), .int .i64 (4 : Int)] 3))
       have hW1 := hW.out.later (((Below.refl _ W).alloc hW.out.size (.cells #[.int .i64 (0 : Int), .int .i64 (4 : Int)] 3)))
       have hz := hS.out.size)
    | ((with_reducible refine (RdO.offsB hS1 hW1 8 W.heap.size 2 2 (8 : Int) rfl [0, 4] (by rw [hL.out]; omega) rfl (by decide) (by rw [hL.out]; omega) (two_ps W) (by rw [World.size_alloc]; omega) (by omega) (two_in (by rw [hL.out]; omega)) hg.out).mono ?_)
       clear hS1 hW1 hz
       rintro e W2 ⟨rfl, offs, hS2⟩
       clear hS hW
       have hS := Lib.hid hS2
       clear hS2)
    | ((with_reducible refine at_load 36 ?_); go_loud (refine wpList_value (by rfl) _ (run_load_cell _ 36 _ (by rfl) ⟨w.heap.size + 1 + 1, 4, none⟩ rfl (.int .i64 ((5 : Nat) : Int)) hS.out.errno _ Tryd.underlying36 rfl) ?_)))
  rename_i K hK
  have hz10 := hS.out.size
  refine wp_region_held (S := fun w' => w'.cell? ⟨w.heap.size + 1 + 1, 4, none⟩ = some (.int .i64 ((5:Nat) : Int))) (by kernel_rfl) ?_
  have hSS : ({ W2 with drawn := W2.drawn + 1 } : World).cell? ⟨w.heap.size + 1 + 1, 4, none⟩ = some (.int .i64 ((5:Nat) : Int)) := hS.out.errno
  refine takeL (i := 0) (v := (.agg atsZ.toArray)) rfl (by kernel_rfl) (by kernel_rfl) (by kernel_rfl) (fun _ _ _ h => h) rfl (by assumption) (fun w' _ => run_build_ats0 w' rfl) ?_
  simp only [Act.put, List.setIfInBounds_toArray, List.set_cons_zero, List.set_cons_succ]
  refine takeL (i := 1) (v := (.pointer (some ⟨w.heap.size + 1 + 1, 0, none⟩))) rfl (by kernel_rfl) (by kernel_rfl) (by kernel_rfl) (fun _ _ _ h => h) rfl (by assumption) (fun w' hS' => by go_simp) ?_
  simp only [Act.put, List.setIfInBounds_toArray, List.set_cons_zero, List.set_cons_succ]
  refine takeL (i := 2) (v := (.pointer (some ⟨w.heap.size + 1 + 1, 0, none⟩))) rfl (by kernel_rfl) (by kernel_rfl) (by kernel_rfl) (fun _ _ _ h => h) rfl (by assumption) (fun w' hS' => by go_simp) ?_
  simp only [Act.put, List.setIfInBounds_toArray, List.set_cons_zero, List.set_cons_succ]
  refine takeL (i := 3) (v := (.pointer (some ⟨w.heap.size + 1 + 1, 4, none⟩))) rfl (by kernel_rfl) (by kernel_rfl) (by kernel_rfl) (fun _ _ _ h => h) rfl (by assumption) (fun w' hS' => by go_simp) ?_
  simp only [Act.put, List.setIfInBounds_toArray, List.set_cons_zero, List.set_cons_succ]
  refine takeL (i := 4) (v := (.int .i64 ((5:Nat) : Int))) rfl (by kernel_rfl) (by kernel_rfl) (by kernel_rfl) (fun _ _ _ h => h) rfl (by assumption) (fun w' hS' => run_load_cell _ 36 _ (by rfl) ⟨w.heap.size + 1 + 1, 4, none⟩ (by rfl) _ hS' _ Tryd.underlying36 rfl) ?_
  simp only [Act.put, List.setIfInBounds_toArray, List.set_cons_zero, List.set_cons_succ]
  refine oneL (i := 5) rfl (by kernel_rfl) rfl (wp_store_row 68 _ _ rfl w.heap.size rfl _ rfl atsZ_one (by rw [size_ats]; rfl) _ 68 (hS.out.drew _).hR rfl (fun W11 hC11 hA11 => ⟨(hA11.cell (p := ⟨w.heap.size + 1 + 1, 4, none⟩) (by show w.heap.size + 1 + 1 < W2.heap.size; omega) (show w.heap.size + 1 + 1 ≠ w.heap.size by omega)).trans hS.out.errno, ?_⟩))
  have hSS2 : W11.cell? ⟨w.heap.size + 1 + 1, 4, none⟩ = some (.int .i64 ((5:Nat) : Int)) := (hA11.cell (p := ⟨w.heap.size + 1 + 1, 4, none⟩) (by show w.heap.size + 1 + 1 < W2.heap.size; omega) (show w.heap.size + 1 + 1 ≠ w.heap.size by omega)).trans hS.out.errno
  clear hSS
  have hSS := hSS2
  clear hSS2
  simp only [Act.put, List.setIfInBounds_toArray, List.set_cons_zero, List.set_cons_succ]
  refine takeL (i := 6) (v := (.int .i64 ((5:Nat) : Int))) rfl (by kernel_rfl) (by kernel_rfl) (by kernel_rfl) (fun _ _ _ h => h) rfl (by assumption) (fun w' hS' => by go_simp) ?_
  simp only [Act.put, List.setIfInBounds_toArray, List.set_cons_zero, List.set_cons_succ]
  refine wpAnyH_done (by kernel_rfl) ?_ _
  simp only [Exit.then]
  refine hK _ _ ?_
  have hBW : Below w.heap.size w W11 := hA11.below (hS.out.drew _).hB (Nat.le_refl _) (by show w.heap.size ≤ W2.heap.size; omega)
  clear hSS hK K
  go_wp2
  exact ret_mid_tmp rfl w.heap.size 0 atsZ _ rfl (range_whole hC11) Tryd.underlying68 rfl (by rw [size_ats]; rfl) rfl ⟨⟨_, rfl, (rep_ats0 W11).size, (rep_ats0 W11).one, rep_ats0 W11⟩, hBW⟩
theorem Ix.cells_size (a : Ix) (s : Value) : (a.cells s).toArray.size = 197 := a.cells_length s
theorem rowIdx0 : rowB Tryd.prog 61 197 = true := by kernel_rfl
theorem idx_var {a : Ix} {s : Value} {W' : World} (W : World) (h : a.at s W') : (a.cells s).toArray.all (·.oneCell') = true ∧ ∀ v ∈ a.cells s, v.oneCell' = true := by
  have h1 := Ix.one h
  exact ⟨by rw [List.all_toArray, List.all_eq_true]; exact h1, h1⟩
set_option maxHeartbeats 16000000 in
theorem readAts_one (l : List Int) (e1 : Nat) (a : Ix) (h0 : e1 ≠ 0) (va : Option Addr) (c : Nat) (w : World) (hs0 : SlB va c l w) (hlow0 : ∀ ad, va = some ad → ad.block < w.heap.size) (hfew : l.length ≤ 70368744177664) (h8 : 8 ≤ l.length) (hg0 : offGood 8 l.length [offL l 0, offL l 4] 2) (hr10 : Ix.rd (atsP l) e1 a) :
    Calls Tryd.prog 31 #[.slice va l.length c] w fun e w' => (∃ Y : Array Value, e = .returned (.tuple #[.agg Y, .int .i64 (e1 : Int)]) ∧ Y.size = 394 ∧ Y.all (·.oneCell') = true ∧ RepAts Ix0 Ix0 Y w') ∧ Below w.heap.size w w' := by
  have hr1 := Lib.hid hr10
  clear hr10
  obtain ⟨ho0, hq1, hq2⟩ := ats_offs h8 hg0
  have hg := Lib.hid (show offGood 8 l.length ([0, 4].map (offL l)) 2 from hg0)
  have hA0 := Lib.hid (show ([0, 4].map (offL l) ++ [l.length]).getD 0 0 = 8 from ho0)
  obtain ⟨o2, ho2⟩ : ∃ o2, o2 = offL l 4 := ⟨_, rfl⟩
  have hA1 := Lib.hid (show ([0, 4].map (offL l) ++ [l.length]).getD (0 + 1) 0 = o2 from ho2.symm)
  have hA2 := Lib.hid (show ([0, 4].map (offL l) ++ [l.length]).getD (1 + 1) 0 = l.length from rfl)
  have hA1' := Lib.hid (show ([0, 4].map (offL l) ++ [l.length]).getD 1 0 = o2 from ho2.symm)
  have hB0 := Lib.hid (show 0 + 1 < ([0, 4].map (offL l) ++ [l.length]).length from (by decide : 0 + 1 < 3))
  have hB1 := Lib.hid (show 1 + 1 < ([0, 4].map (offL l) ++ [l.length]).length from (by decide : 1 + 1 < 3))
  have hB3 := Lib.hid (show ([0, 4].map (offL l) ++ [l.length]).length ≤ 1000 from (by decide : 3 ≤ 1000))
  have hP := Lib.hid (show (l.drop 8).take (o2 - 8) = atsP l by unfold atsP; rw [ho2])
  have hQ := Lib.hid (show (l.drop o2).take (l.length - o2) = atsQ l by unfold atsQ; rw [ho2])
  have hPl : (atsP l).length ≤ 70368744177664 := by unfold atsP; rw [List.length_take, List.length_drop]; omega
  have hQl : (atsQ l).length ≤ 70368744177664 := by unfold atsQ; rw [List.length_take, List.length_drop]; omega
  rw [← ho2] at hq1 hq2
  clear ho0 hg0 ho2
  generalize atsP l = P at *
  generalize atsQ l = Q at *
  have hs := Lib.hid hs0
  have hlow := Lib.hid hlow0
  clear hs0 hlow0
  obtain ⟨L, hL0⟩ : ∃ L, L = l.length := ⟨_, rfl⟩
  rw [← hL0] at hfew h8 ⊢
  have hL := Lib.hid hL0.symm
  clear hL0
  go_enter Tryd.func31, Tryd.ntmps31
  have hne : ((e1 : Int) == 0) = false := by simp [h0]
  have hne2 : ((e1 : Int) != 0) = true := by simp [h0]
  go_wp2_with (first
    | ((with_reducible refine at_alloc 68 ?_); refine wpList_plain rfl fun K hK => wp_alloc_row 68 rfl 2 rfl _ 394 infoAts (hK _ _ ?_); clear hK K)
    | ((with_reducible refine at_alloc 68 ?_); refine wpList_plain rfl fun K hK => wp_alloc_row 68 rfl 4 rfl _ 394 infoAts (hK _ _ ?_); clear hK K)
    | ((with_reducible refine (RdO.open L 8 (8 : Int) rfl hL.out 2 (2 : Int) rfl (by decide) (err := 0) (if_pos (by omega)) (by decide) hs.out.row hs.out.cap hs.out.nil hlow.out (by rw [hL.out]; exact hfew)).mono ?_)
       rintro e W ⟨rfl, hS1, hW1⟩
       have hS := Lib.hid hS1
       have hW := Lib.hid hW1
       clear hS1 hW1)
    | ((with_reducible refine at_bslice 82 ?_); go_loud (refine wpList_plain rfl fun K hK => wp_ran _ (run_bslice_int2 _ _ (by rfl) (0 : Int) (4 : Int) (by rfl)) (hK _ _ ?_)); clear hK K
       have hS1 := hS.out.after ((Below.refl _ W).alloc (Nat.le_refl _) (.cells #[.int .i64 (0 : Int), .int .i64 (4 : Int)] 3))
       have hW1 := hW.out.later (((Below.refl _ W).alloc hW.out.size (.cells #[.int .i64 (0 : Int), .int .i64 (4 : Int)] 3)))
       have hz := hS.out.size)
    | ((with_reducible refine (RdO.offsG hS1 hW1 8 W.heap.size 2 2 (8 : Int) rfl [0, 4] (by rw [hL.out]; omega) rfl (by decide) (by rw [hL.out]; omega) (two_ps W) (by rw [World.size_alloc]; omega) (by omega) (two_in (by rw [hL.out]; omega)) hg.out).mono ?_)
       clear hS1 hW1 hz
       rintro e W2 ⟨rfl, hS2⟩
       clear hS hW
       have hS := Lib.hid hS2
       clear hS2)
    | ((with_reducible refine (RdO.laterS hS.out hB0.out hB3.out 8 o2 hA0.out hA1.out hq1 hq2 (by rw [hL.out]; omega) (by decide) P hP.out).mono ?_)
       rintro e W ⟨bb, ob, cb, rfl, hb1, hS1⟩
       clear hS
       have hS := Lib.hid hS1
       have hb := Lib.hid hb1
       clear hS1 hb1)
    | ((with_reducible refine (ix_read P e1 a hr1.out (some ⟨bb, ob, none⟩) cb _ hb.out hb.out.lowO (by omega)).mono ?_)
       rintro e W2 ⟨⟨s1, rfl, hO1⟩, hb1⟩
       have hO := Lib.hid (hO1.weak (base' := w.heap.size + 3) hS.out.size)
       have hS1 := hS.out.after hb1
       have hv := Lib.hid (idx_var W2 hO1.at)
       clear hO1 hb1 hb hS
       have hS := Lib.hid hS1
       clear hS1)
    | ((with_reducible refine at_alloc 61 ?_); go_loud (refine wpList_alloc_store rfl rfl 61 6 _ rfl rfl rfl (a.cells s1).toArray rfl rfl (zeroOf Tryd.prog 61) (by rw [Ix.cells_size]; exact (row_zero rowIdx0).1) (by rw [Ix.cells_size]; exact (row_zero rowIdx0).2) hv.out.1 ?_)
       have hS1 := hS.out.after ((Below.refl _ W2).alloc (Nat.le_refl _) (.cells (a.cells s1).toArray 61))
       have hO1 := hO.out.later ((Below.refl _ W2).alloc (Nat.le_refl _) (.cells (a.cells s1).toArray 61))
       have hn1 := heap_new W2 (a.cells s1).toArray 61 W2.heap.size rfl)
    | ((with_reducible refine at_load 61 ?_); refine wpList_value (by rfl) _ (run_load_box _ 61 _ (by rfl) W2.heap.size (by rfl) _ _ (0, 0) _ hn1 Tryd.underlying61 rfl (by rw [size_idx, List.size_toArray, Ix.cells_length])) ?_
       clear hn1 hS hO
       have hS := Lib.hid hS1
       have hO := Lib.hid hO1
       clear hS1 hO1)
    | ((with_reducible refine at_store 61 ?_); refine at_staddr 61 (w.heap.size + 1) 0 rfl ?_; refine wpList_rowsX rfl 61 _ _ rfl 0 rfl (a.cells s1) rfl (by rw [size_idx, Ix.cells_length]) hv.out.2 hS.out [] (Ix0.cells nilS) (Ix0.cells nilS) rfl rfl (by rw [Ix.cells_length, Ix.cells_length]) (fun W3 hS1 hA3 => ?_)
       have hO1 := hO.out.apart hA3 (by omega)
       clear hS hO hv hA3
       have hS := Lib.hid hS1
       have hO := Lib.hid hO1
       clear hS1 hO1)
    | ((with_reducible refine (RdO.fail hS.out e1 e1 (e1 : Int) rfl (if_pos rfl)).mono ?_)
       rintro e W4 ⟨rfl, hS1, hA4⟩
       have hO1 := hO.out.apart hA4 (by omega)
       clear hS hO hA4
       have hS := Lib.hid hS1
       have hO := Lib.hid hO1
       clear hS1 hO1)
    | ((with_reducible refine at_load 36 ?_); go_loud (refine wpList_value (by rfl) _ (run_load_cell _ 36 _ (by rfl) ⟨w.heap.size + 1 + 1, 4, none⟩ rfl (.int .i64 (0 : Int)) hS.out.errno _ Tryd.underlying36 rfl) ?_))
    | ((with_reducible refine at_load 36 ?_); go_loud (refine wpList_value (by rfl) _ (run_load_cell _ 36 _ (by rfl) ⟨w.heap.size + 1 + 1, 4, none⟩ rfl (.int .i64 (e1 : Int)) hS.out.errno _ Tryd.underlying36 rfl) ?_)))
  rename_i K hK
  have hz10 := hS.out.size
  refine wp_region_held (S := fun w' => w'.cell? ⟨w.heap.size + 1 + 1, 4, none⟩ = some (.int .i64 (e1 : Int))) (by kernel_rfl) ?_
  have hSS : ({ W4 with drawn := W4.drawn + 1 } : World).cell? ⟨w.heap.size + 1 + 1, 4, none⟩ = some (.int .i64 (e1 : Int)) := hS.out.errno
  refine takeL (i := 0) (v := (.agg atsZ.toArray)) rfl (by kernel_rfl) (by kernel_rfl) (by kernel_rfl) (fun _ _ _ h => h) rfl (by assumption) (fun w' _ => run_build_ats0 w' rfl) ?_
  simp only [Act.put, List.setIfInBounds_toArray, List.set_cons_zero, List.set_cons_succ]
  refine takeL (i := 1) (v := (.pointer (some ⟨w.heap.size + 1 + 1, 0, none⟩))) rfl (by kernel_rfl) (by kernel_rfl) (by kernel_rfl) (fun _ _ _ h => h) rfl (by assumption) (fun w' hS' => by go_simp) ?_
  simp only [Act.put, List.setIfInBounds_toArray, List.set_cons_zero, List.set_cons_succ]
  refine takeL (i := 2) (v := (.pointer (some ⟨w.heap.size + 1 + 1, 0, none⟩))) rfl (by kernel_rfl) (by kernel_rfl) (by kernel_rfl) (fun _ _ _ h => h) rfl (by assumption) (fun w' hS' => by go_simp) ?_
  simp only [Act.put, List.setIfInBounds_toArray, List.set_cons_zero, List.set_cons_succ]
  refine takeL (i := 3) (v := (.pointer (some ⟨w.heap.size + 1 + 1, 4, none⟩))) rfl (by kernel_rfl) (by kernel_rfl) (by kernel_rfl) (fun _ _ _ h => h) rfl (by assumption) (fun w' hS' => by go_simp) ?_
  simp only [Act.put, List.setIfInBounds_toArray, List.set_cons_zero, List.set_cons_succ]
  refine takeL (i := 4) (v := (.int .i64 (e1 : Int))) rfl (by kernel_rfl) (by kernel_rfl) (by kernel_rfl) (fun _ _ _ h => h) rfl (by assumption) (fun w' hS' => run_load_cell _ 36 _ (by rfl) ⟨w.heap.size + 1 + 1, 4, none⟩ (by rfl) _ hS' _ Tryd.underlying36 rfl) ?_
  simp only [Act.put, List.setIfInBounds_toArray, List.set_cons_zero, List.set_cons_succ]
  refine oneL (i := 5) rfl (by kernel_rfl) rfl (wp_store_row 68 _ _ rfl w.heap.size rfl _ rfl atsZ_one (by rw [size_ats]; rfl) _ 68 (hS.out.drew _).hR rfl (fun W11 hC11 hA11 => ⟨(hA11.cell (p := ⟨w.heap.size + 1 + 1, 4, none⟩) (by show w.heap.size + 1 + 1 < W4.heap.size; omega) (show w.heap.size + 1 + 1 ≠ w.heap.size by omega)).trans hS.out.errno, ?_⟩))
  have hSS2 : W11.cell? ⟨w.heap.size + 1 + 1, 4, none⟩ = some (.int .i64 (e1 : Int)) := (hA11.cell (p := ⟨w.heap.size + 1 + 1, 4, none⟩) (by show w.heap.size + 1 + 1 < W4.heap.size; omega) (show w.heap.size + 1 + 1 ≠ w.heap.size by omega)).trans hS.out.errno
  clear hSS
  have hSS := hSS2
  clear hSS2
  simp only [Act.put, List.setIfInBounds_toArray, List.set_cons_zero, List.set_cons_succ]
  refine takeL (i := 6) (v := (.int .i64 (e1 : Int))) rfl (by kernel_rfl) (by kernel_rfl) (by kernel_rfl) (fun _ _ _ h => h) rfl (by assumption) (fun w' hS' => by go_simp) ?_
  simp only [Act.put, List.setIfInBounds_toArray, List.set_cons_zero, List.set_cons_succ]
  refine wpAnyH_done (by kernel_rfl) ?_ _
  simp only [Exit.then]
  refine hK _ _ ?_
  have hBW : Below w.heap.size w W11 := hA11.below (hS.out.drew _).hB (Nat.le_refl _) (by show w.heap.size ≤ W4.heap.size; omega)
  clear hSS hK K
  go_wp2
  exact ret_mid_tmp rfl w.heap.size 0 atsZ _ rfl (range_whole hC11) Tryd.underlying68 rfl (by rw [size_ats]; rfl) rfl ⟨⟨_, rfl, (rep_ats0 W11).size, (rep_ats0 W11).one, rep_ats0 W11⟩, hBW⟩
end Go.Proofs.YtihelknkcomjpaaDoor
namespace Go.Proofs.YtihelknkcomjpaaDoor
open Go.RowKit BigFrame
set_option maxRecDepth 100000
theorem RdO.laterA {n : Nat} {Z C : Array Value} {t : TypeId} {offs : List Nat} {nx : Nat} {l : List Int} {va : Option Addr} {c at' : Nat} {w W : World} (h : RdO n Z C t offs nx l va c at' 0 w W) (hnx : nx + 1 < offs.length) (hno : offs.length ≤ 1000) (a b : Nat) (ha : offs.getD nx 0 = a) (hb : offs.getD (nx + 1) 0 = b) (hab : a ≤ b) (hbl : b ≤ l.length) (hpos : 0 < l.length) (hat : at' ≤ 1000000) (q : List Int) (hq : (l.drop a).take (b - a) = q) :
    Calls Tryd.prog 75 #[.pointer (some ⟨n + 1 + 1, 0, none⟩)] W fun e w' => ∃ bb o cb, e = .returned (.slice (some ⟨bb, o, none⟩) q.length cb) ∧ SlB (some ⟨bb, o, none⟩) cb q w' ∧ Apart (n + 1 + 1) W w' ∧ RdO n Z C t offs (nx + 1) l va c (at' + 4) 0 w w' := by
  subst hq
  have hl : ((l.drop a).take (b - a)).length = b - a := by rw [List.length_take, List.length_drop]; omega
  exact (in_later (n + 1 + 1) l va c at' W h.hI hnx hno a b ha hb hab hbl hpos hat).mono fun _ W' ⟨⟨bb, o, c', h1, h2, h3, h4⟩, h5, h6⟩ => ⟨bb, o, c', by rw [hl]; exact h1, ⟨h4, (fun e => by cases e), by rw [hl]; exact h2, fun b' o' e => by cases e; have := h5.size; omega⟩, h6, h.step h5 h6⟩
set_option maxHeartbeats 16000000 in
theorem readAts_two (l : List Int) (e2 : Nat) (a b : Ix) (h0 : e2 ≠ 0) (va : Option Addr) (c : Nat) (w : World) (hs0 : SlB va c l w) (hlow0 : ∀ ad, va = some ad → ad.block < w.heap.size) (hfew : l.length ≤ 70368744177664) (h8 : 8 ≤ l.length) (hg0 : offGood 8 l.length [offL l 0, offL l 4] 2) (hr10 : Ix.rd (atsP l) 0 a) (hr20 : Ix.rd (atsQ l) e2 b) :
    Calls Tryd.prog 31 #[.slice va l.length c] w fun e w' => (∃ Y : Array Value, e = .returned (.tuple #[.agg Y, .int .i64 (e2 : Int)]) ∧ Y.size = 394 ∧ Y.all (·.oneCell') = true ∧ RepAts Ix0 Ix0 Y w') ∧ Below w.heap.size w w' := by
  have hr1 := Lib.hid (show Ix.rd (atsP l) 0 a from hr10)
  have hr2 := Lib.hid hr20
  clear hr10 hr20
  obtain ⟨ho0, hq1, hq2⟩ := ats_offs h8 hg0
  have hg := Lib.hid (show offGood 8 l.length ([0, 4].map (offL l)) 2 from hg0)
  have hA0 := Lib.hid (show ([0, 4].map (offL l) ++ [l.length]).getD 0 0 = 8 from ho0)
  obtain ⟨o2, ho2⟩ : ∃ o2, o2 = offL l 4 := ⟨_, rfl⟩
  have hA1 := Lib.hid (show ([0, 4].map (offL l) ++ [l.length]).getD (0 + 1) 0 = o2 from ho2.symm)
  have hA2 := Lib.hid (show ([0, 4].map (offL l) ++ [l.length]).getD (1 + 1) 0 = l.length from rfl)
  have hA1' := Lib.hid (show ([0, 4].map (offL l) ++ [l.length]).getD 1 0 = o2 from ho2.symm)
  have hB0 := Lib.hid (show 0 + 1 < ([0, 4].map (offL l) ++ [l.length]).length from (by decide : 0 + 1 < 3))
  have hB1 := Lib.hid (show 1 + 1 < ([0, 4].map (offL l) ++ [l.length]).length from (by decide : 1 + 1 < 3))
  have hB3 := Lib.hid (show ([0, 4].map (offL l) ++ [l.length]).length ≤ 1000 from (by decide : 3 ≤ 1000))
  have hP := Lib.hid (show (l.drop 8).take (o2 - 8) = atsP l by unfold atsP; rw [ho2])
  have hQ := Lib.hid (show (l.drop o2).take (l.length - o2) = atsQ l by unfold atsQ; rw [ho2])
  have hPl : (atsP l).length ≤ 70368744177664 := by unfold atsP; rw [List.length_take, List.length_drop]; omega
  have hQl : (atsQ l).length ≤ 70368744177664 := by unfold atsQ; rw [List.length_take, List.length_drop]; omega
  rw [← ho2] at hq1 hq2
  clear ho0 hg0 ho2
  generalize atsP l = P at *
  generalize atsQ l = Q at *
  have hs := Lib.hid hs0
  have hlow := Lib.hid hlow0
  clear hs0 hlow0
  obtain ⟨L, hL0⟩ : ∃ L, L = l.length := ⟨_, rfl⟩
  rw [← hL0] at hfew h8 ⊢
  have hL := Lib.hid hL0.symm
  clear hL0
  go_enter Tryd.func31, Tryd.ntmps31
  have hne : ((e2 : Int) == 0) = false := by simp [h0]
  have hne2 : ((e2 : Int) != 0) = true := by simp [h0]
  go_wp2_with (first
    | ((with_reducible refine at_alloc 68 ?_); refine wpList_plain rfl fun K hK => wp_alloc_row 68 rfl 2 rfl _ 394 infoAts (hK _ _ ?_); clear hK K)
    | ((with_reducible refine at_alloc 68 ?_); refine wpList_plain rfl fun K hK => wp_alloc_row 68 rfl 4 rfl _ 394 infoAts (hK _ _ ?_); clear hK K)
    | ((with_reducible refine (RdO.open L 8 (8 : Int) rfl hL.out 2 (2 : Int) rfl (by decide) (err := 0) (if_pos (by omega)) (by decide) hs.out.row hs.out.cap hs.out.nil hlow.out (by rw [hL.out]; exact hfew)).mono ?_)
       rintro e W ⟨rfl, hS1, hW1⟩
       have hS := Lib.hid hS1
       have hW := Lib.hid hW1
       clear hS1 hW1)
    | ((with_reducible refine at_bslice 82 ?_); go_loud (refine wpList_plain rfl fun K hK => wp_ran _ (run_bslice_int2 _ _ (by rfl) (0 : Int) (4 : Int) (by rfl)) (hK _ _ ?_)); clear hK K
       have hS1 := hS.out.after ((Below.refl _ W).alloc (Nat.le_refl _) (.cells #[.int .i64 (0 : Int), .int .i64 (4 : Int)] 3))
       have hW1 := hW.out.later (((Below.refl _ W).alloc hW.out.size (.cells #[.int .i64 (0 : Int), .int .i64 (4 : Int)] 3)))
       have hz := hS.out.size)
    | ((with_reducible refine (RdO.offsG hS1 hW1 8 W.heap.size 2 2 (8 : Int) rfl [0, 4] (by rw [hL.out]; omega) rfl (by decide) (by rw [hL.out]; omega) (two_ps W) (by rw [World.size_alloc]; omega) (by omega) (two_in (by rw [hL.out]; omega)) hg.out).mono ?_)
       clear hS1 hW1 hz
       rintro e W2 ⟨rfl, hS2⟩
       clear hS hW
       have hS := Lib.hid hS2
       clear hS2)
    | ((with_reducible refine (RdO.laterS hS.out hB0.out hB3.out 8 o2 hA0.out hA1.out hq1 hq2 (by rw [hL.out]; omega) (by decide) P hP.out).mono ?_)
       rintro e W ⟨bb, ob, cb, rfl, hb1, hS1⟩
       clear hS
       have hS := Lib.hid hS1
       have hb := Lib.hid hb1
       clear hS1 hb1)
    | ((with_reducible refine (ix_read P 0 a hr1.out (some ⟨bb, ob, none⟩) cb _ hb.out hb.out.lowO (by omega)).mono ?_)
       rintro e W2 ⟨⟨s1, rfl, hO1⟩, hb1⟩
       have hO := Lib.hid (hO1.weak (base' := w.heap.size + 3) hS.out.size)
       have hS1 := hS.out.after hb1
       have hv := Lib.hid (idx_var W2 hO1.at)
       clear hO1 hb1 hb hS
       have hS := Lib.hid hS1
       clear hS1)
    | ((with_reducible refine at_alloc 61 ?_); go_loud (refine wpList_alloc_store rfl rfl 61 6 _ rfl rfl rfl (a.cells s1).toArray rfl rfl (zeroOf Tryd.prog 61) (by rw [Ix.cells_size]; exact (row_zero rowIdx0).1) (by rw [Ix.cells_size]; exact (row_zero rowIdx0).2) hv.out.1 ?_)
       have hS1 := hS.out.after ((Below.refl _ W2).alloc (Nat.le_refl _) (.cells (a.cells s1).toArray 61))
       have hO1 := hO.out.later ((Below.refl _ W2).alloc (Nat.le_refl _) (.cells (a.cells s1).toArray 61))
       have hn1 := heap_new W2 (a.cells s1).toArray 61 W2.heap.size rfl)
    | ((with_reducible refine at_load 61 ?_); refine wpList_value (by rfl) _ (run_load_box _ 61 _ (by rfl) W2.heap.size (by rfl) _ _ (0, 0) _ hn1 Tryd.underlying61 rfl (by rw [size_idx, List.size_toArray, Ix.cells_length])) ?_
       clear hn1 hS hO
       have hS := Lib.hid hS1
       have hO := Lib.hid hO1
       clear hS1 hO1)
    | ((with_reducible refine at_store 61 ?_); refine at_staddr 61 (w.heap.size + 1) 0 rfl ?_; refine wpList_rowsX rfl 61 _ _ rfl 0 rfl (a.cells s1) rfl (by rw [size_idx, Ix.cells_length]) hv.out.2 hS.out [] (Ix0.cells nilS) (Ix0.cells nilS) rfl rfl (by rw [Ix.cells_length, Ix.cells_length]) (fun W3 hS1 hA3 => ?_)
       have hO1 := hO.out.apart hA3 (by omega)
       clear hS hO hv hA3
       have hS := Lib.hid hS1
       have hO := Lib.hid hO1
       clear hS1 hO1)
    | ((with_reducible refine (RdO.fail hS.out 0 0 (0 : Int) rfl (if_pos rfl)).mono ?_)
       rintro e W4 ⟨rfl, hS1, hA4⟩
       have hO1 := hO.out.apart hA4 (by omega)
       clear hS hO hA4
       have hS := Lib.hid hS1
       have hO := Lib.hid hO1
       clear hS1 hO1)
    | ((with_reducible refine (RdO.laterA hS.out hB1.out hB3.out o2 l.length hA1'.out hA2.out hq2 (Nat.le_refl _) (by rw [hL.out]; omega) (by decide) Q hQ.out).mono ?_)
       rintro e W ⟨bb, ob, cb, rfl, hb1, hA5, hS1⟩
       have hO5 := hO.out.apart hA5 (by omega)
       clear hS hO hA5
       have hS := Lib.hid hS1
       have hO := Lib.hid hO5
       have hb := Lib.hid hb1
       clear hS1 hb1 hO5)
    | ((with_reducible refine (ix_read Q e2 b hr2.out (some ⟨bb, ob, none⟩) cb _ hb.out hb.out.lowO (by omega)).mono ?_)
       rintro e W6 ⟨⟨s2, rfl, hO1⟩, hb1⟩
       have hP2 := Lib.hid (hO1.weak (base' := w.heap.size + 3) hS.out.size)
       have hS1 := hS.out.after hb1
       have hO5 := hO.out.later hb1
       have hv := Lib.hid (idx_var W6 hO1.at)
       clear hO1 hb1 hb hS hO
       have hS := Lib.hid hS1
       have hO := Lib.hid hO5
       clear hS1 hO5)
    | ((with_reducible refine at_alloc 61 ?_); refine wpList_alloc_store rfl rfl 61 8 _ rfl rfl rfl (b.cells s2).toArray rfl rfl (zeroOf Tryd.prog 61) (by rw [Ix.cells_size]; exact (row_zero rowIdx0).1) (by rw [Ix.cells_size]; exact (row_zero rowIdx0).2) hv.out.1 ?_
       have hS1 := hS.out.after ((Below.refl _ W6).alloc (Nat.le_refl _) (.cells (b.cells s2).toArray 61))
       have hO1 := hO.out.later ((Below.refl _ W6).alloc (Nat.le_refl _) (.cells (b.cells s2).toArray 61))
       have hP3 := hP2.out.later ((Below.refl _ W6).alloc (Nat.le_refl _) (.cells (b.cells s2).toArray 61))
       have hn2 := heap_new W6 (b.cells s2).toArray 61 W6.heap.size rfl)
    | ((with_reducible refine at_load 61 ?_); refine wpList_value (by rfl) _ (run_load_box _ 61 _ (by rfl) W6.heap.size (by rfl) _ _ (0, 0) _ hn2 Tryd.underlying61 rfl (by rw [size_idx, List.size_toArray, Ix.cells_length])) ?_
       clear hn2 hS hO hP2
       have hS := Lib.hid hS1
       have hO := Lib.hid hO1
       have hP2 := Lib.hid hP3
       clear hS1 hO1 hP3)
    | ((with_reducible refine at_store 61 ?_); refine at_staddr 61 (w.heap.size + 1) 197 rfl ?_; refine wpList_rowsX rfl 61 _ _ rfl 197 rfl (b.cells s2) rfl (by rw [size_idx, Ix.cells_length]) hv.out.2 hS.out (a.cells s1) (Ix0.cells nilS) [] (by simp) (Ix.cells_length _ _) (by rw [Ix.cells_length, Ix.cells_length]) (fun W7 hS1 hA3 => ?_)
       rw [List.append_nil] at hS1
       have hO1 := hO.out.apart hA3 (by omega)
       have hP3 := hP2.out.apart hA3 (by omega)
       clear hS hO hP2 hv hA3
       have hS := Lib.hid hS1
       have hO := Lib.hid hO1
       have hP2 := Lib.hid hP3
       clear hS1 hO1 hP3)
    | ((with_reducible refine (RdO.fail hS.out e2 e2 (e2 : Int) rfl (if_pos rfl)).mono ?_)
       rintro e W8 ⟨rfl, hS1, hA4⟩
       have hO1 := hO.out.apart hA4 (by omega)
       have hP3 := hP2.out.apart hA4 (by omega)
       clear hS hO hP2 hA4
       have hS := Lib.hid hS1
       have hO := Lib.hid hO1
       have hP2 := Lib.hid hP3
       clear hS1 hO1 hP3)
    | ((with_reducible refine at_load 36 ?_); refine wpList_value (by rfl) _ (run_load_cell _ 36 _ (by rfl) ⟨w.heap.size + 1 + 1, 4, none⟩ rfl (.int .i64 (0 : Int)) hS.out.errno _ Tryd.underlying36 rfl) ?_)
    | ((with_reducible refine at_load 36 ?_); go_loud (refine wpList_value (by rfl) _ (run_load_cell _ 36 _ (by rfl) ⟨w.heap.size + 1 + 1, 4, none⟩ rfl (.int .i64 (e2 : Int)) hS.out.errno _ Tryd.underlying36 rfl) ?_)))
  rename_i K hK
  have hz10 := hS.out.size
  refine wp_region_held (S := fun w' => w'.cell? ⟨w.heap.size + 1 + 1, 4, none⟩ = some (.int .i64 (e2 : Int))) (by kernel_rfl) ?_
  have hSS : ({ W8 with drawn := W8.drawn + 1 } : World).cell? ⟨w.heap.size + 1 + 1, 4, none⟩ = some (.int .i64 (e2 : Int)) := hS.out.errno
  refine takeL (i := 0) (v := (.agg atsZ.toArray)) rfl (by kernel_rfl) (by kernel_rfl) (by kernel_rfl) (fun _ _ _ h => h) rfl (by assumption) (fun w' _ => run_build_ats0 w' rfl) ?_
  simp only [Act.put, List.setIfInBounds_toArray, List.set_cons_zero, List.set_cons_succ]
  refine takeL (i := 1) (v := (.pointer (some ⟨w.heap.size + 1 + 1, 0, none⟩))) rfl (by kernel_rfl) (by kernel_rfl) (by kernel_rfl) (fun _ _ _ h => h) rfl (by assumption) (fun w' hS' => by go_simp) ?_
  simp only [Act.put, List.setIfInBounds_toArray, List.set_cons_zero, List.set_cons_succ]
  refine takeL (i := 2) (v := (.pointer (some ⟨w.heap.size + 1 + 1, 0, none⟩))) rfl (by kernel_rfl) (by kernel_rfl) (by kernel_rfl) (fun _ _ _ h => h) rfl (by assumption) (fun w' hS' => by go_simp) ?_
  simp only [Act.put, List.setIfInBounds_toArray, List.set_cons_zero, List.set_cons_succ]
  refine takeL (i := 3) (v := (.pointer (some ⟨w.heap.size + 1 + 1, 4, none⟩))) rfl (by kernel_rfl) (by kernel_rfl) (by kernel_rfl) (fun _ _ _ h => h) rfl (by assumption) (fun w' hS' => by go_simp) ?_
  simp only [Act.put, List.setIfInBounds_toArray, List.set_cons_zero, List.set_cons_succ]
  refine takeL (i := 4) (v := (.int .i64 (e2 : Int))) rfl (by kernel_rfl) (by kernel_rfl) (by kernel_rfl) (fun _ _ _ h => h) rfl (by assumption) (fun w' hS' => run_load_cell _ 36 _ (by rfl) ⟨w.heap.size + 1 + 1, 4, none⟩ (by rfl) _ hS' _ Tryd.underlying36 rfl) ?_
  simp only [Act.put, List.setIfInBounds_toArray, List.set_cons_zero, List.set_cons_succ]
  refine oneL (i := 5) rfl (by kernel_rfl) rfl (wp_store_row 68 _ _ rfl w.heap.size rfl _ rfl atsZ_one (by rw [size_ats]; rfl) _ 68 (hS.out.drew _).hR rfl (fun W11 hC11 hA11 => ⟨(hA11.cell (p := ⟨w.heap.size + 1 + 1, 4, none⟩) (by show w.heap.size + 1 + 1 < W8.heap.size; omega) (show w.heap.size + 1 + 1 ≠ w.heap.size by omega)).trans hS.out.errno, ?_⟩))
  have hSS2 : W11.cell? ⟨w.heap.size + 1 + 1, 4, none⟩ = some (.int .i64 (e2 : Int)) := (hA11.cell (p := ⟨w.heap.size + 1 + 1, 4, none⟩) (by show w.heap.size + 1 + 1 < W8.heap.size; omega) (show w.heap.size + 1 + 1 ≠ w.heap.size by omega)).trans hS.out.errno
  clear hSS
  have hSS := hSS2
  clear hSS2
  simp only [Act.put, List.setIfInBounds_toArray, List.set_cons_zero, List.set_cons_succ]
  refine takeL (i := 6) (v := (.int .i64 (e2 : Int))) rfl (by kernel_rfl) (by kernel_rfl) (by kernel_rfl) (fun _ _ _ h => h) rfl (by assumption) (fun w' hS' => by go_simp) ?_
  simp only [Act.put, List.setIfInBounds_toArray, List.set_cons_zero, List.set_cons_succ]
  refine wpAnyH_done (by kernel_rfl) ?_ _
  simp only [Exit.then]
  refine hK _ _ ?_
  have hBW : Below w.heap.size w W11 := hA11.below (hS.out.drew _).hB (Nat.le_refl _) (by show w.heap.size ≤ W8.heap.size; omega)
  clear hSS hK K
  go_wp2
  exact ret_mid_tmp rfl w.heap.size 0 atsZ _ rfl (range_whole hC11) Tryd.underlying68 rfl (by rw [size_ats]; rfl) rfl ⟨⟨_, rfl, (rep_ats0 W11).size, (rep_ats0 W11).one, rep_ats0 W11⟩, hBW⟩
set_option maxHeartbeats 16000000 in
theorem readAts_ok (l : List Int) (a b : Ix) (va : Option Addr) (c : Nat) (w : World) (hs0 : SlB va c l w) (hlow0 : ∀ ad, va = some ad → ad.block < w.heap.size) (hfew : l.length ≤ 70368744177664) (h8 : 8 ≤ l.length) (hg0 : offGood 8 l.length [offL l 0, offL l 4] 2) (hr10 : Ix.rd (atsP l) 0 a) (hr20 : Ix.rd (atsQ l) 0 b) :
    Calls Tryd.prog 31 #[.slice va l.length c] w fun e w' => (∃ Y : Array Value, e = .returned (.tuple #[.agg Y, .int .i64 ((0 : Nat) : Int)]) ∧ Y.size = 394 ∧ Y.all (·.oneCell') = true ∧ RepAts a b Y w') ∧ Below w.heap.size w w' := by
  have hr1 := Lib.hid (show Ix.rd (atsP l) 0 a from hr10)
  have hr2 := Lib.hid hr20
  clear hr10 hr20
  obtain ⟨ho0, hq1, hq2⟩ := ats_offs h8 hg0
  have hg := Lib.hid (show offGood 8 l.length ([0, 4].map (offL l)) 2 from hg0)
  have hA0 := Lib.hid (show ([0, 4].map (offL l) ++ [l.length]).getD 0 0 = 8 from ho0)
  obtain ⟨o2, ho2⟩ : ∃ o2, o2 = offL l 4 := ⟨_, rfl⟩
  have hA1 := Lib.hid (show ([0, 4].map (offL l) ++ [l.length]).getD (0 + 1) 0 = o2 from ho2.symm)
  have hA2 := Lib.hid (show ([0, 4].map (offL l) ++ [l.length]).getD (1 + 1) 0 = l.length from rfl)
  have hA1' := Lib.hid (show ([0, 4].map (offL l) ++ [l.length]).getD 1 0 = o2 from ho2.symm)
  have hB0 := Lib.hid (show 0 + 1 < ([0, 4].map (offL l) ++ [l.length]).length from (by decide : 0 + 1 < 3))
  have hB1 := Lib.hid (show 1 + 1 < ([0, 4].map (offL l) ++ [l.length]).length from (by decide : 1 + 1 < 3))
  have hB3 := Lib.hid (show ([0, 4].map (offL l) ++ [l.length]).length ≤ 1000 from (by decide : 3 ≤ 1000))
  have hP := Lib.hid (show (l.drop 8).take (o2 - 8) = atsP l by unfold atsP; rw [ho2])
  have hQ := Lib.hid (show (l.drop o2).take (l.length - o2) = atsQ l by unfold atsQ; rw [ho2])
  have hPl : (atsP l).length ≤ 70368744177664 := by unfold atsP; rw [List.length_take, List.length_drop]; omega
  have hQl : (atsQ l).length ≤ 70368744177664 := by unfold atsQ; rw [List.length_take, List.length_drop]; omega
  rw [← ho2] at hq1 hq2
  clear ho0 hg0 ho2
  generalize atsP l = P at *
  generalize atsQ l = Q at *
  have hs := Lib.hid hs0
  have hlow := Lib.hid hlow0
  clear hs0 hlow0
  obtain ⟨L, hL0⟩ : ∃ L, L = l.length := ⟨_, rfl⟩
  rw [← hL0] at hfew h8 ⊢
  have hL := Lib.hid hL0.symm
  clear hL0
  go_enter Tryd.func31, Tryd.ntmps31
  go_wp2_with (first
    | ((with_reducible refine at_alloc 68 ?_); refine wpList_plain rfl fun K hK => wp_alloc_row 68 rfl 2 rfl _ 394 infoAts (hK _ _ ?_); clear hK K)
    | ((with_reducible refine at_alloc 68 ?_); refine wpList_plain rfl fun K hK => wp_alloc_row 68 rfl 4 rfl _ 394 infoAts (hK _ _ ?_); clear hK K)
    | ((with_reducible refine (RdO.laterA hS.out hB1.out hB3.out o2 l.length hA1'.out hA2.out hq2 (Nat.le_refl _) (by rw [hL.out]; omega) (by decide) Q hQ.out).mono ?_)
       rintro e W ⟨bb, ob, cb, rfl, hb1, hA5, hS1⟩
       have hO5 := hO.out.apart hA5 (by omega)
       clear hS hO hA5
       have hS := Lib.hid hS1
       have hO := Lib.hid hO5
       have hb := Lib.hid hb1
       clear hS1 hb1 hO5)
    | ((with_reducible refine (ix_read Q 0 b hr2.out (some ⟨bb, ob, none⟩) cb _ hb.out hb.out.lowO (by omega)).mono ?_)
       rintro e W6 ⟨⟨s2, rfl, hO1⟩, hb1⟩
       have hP2 := Lib.hid (hO1.weak (base' := w.heap.size + 3) hS.out.size)
       have hS1 := hS.out.after hb1
       have hO5 := hO.out.later hb1
       have hv := Lib.hid (idx_var W6 hO1.at)
       clear hO1 hb1 hb hS hO
       have hS := Lib.hid hS1
       have hO := Lib.hid hO5
       clear hS1 hO5)
    | ((with_reducible refine at_alloc 61 ?_); refine wpList_alloc_store rfl rfl 61 8 _ rfl rfl rfl (b.cells s2).toArray rfl rfl (zeroOf Tryd.prog 61) (by rw [Ix.cells_size]; exact (row_zero rowIdx0).1) (by rw [Ix.cells_size]; exact (row_zero rowIdx0).2) hv.out.1 ?_
       have hS1 := hS.out.after ((Below.refl _ W6).alloc (Nat.le_refl _) (.cells (b.cells s2).toArray 61))
       have hO1 := hO.out.later ((Below.refl _ W6).alloc (Nat.le_refl _) (.cells (b.cells s2).toArray 61))
       have hP3 := hP2.out.later ((Below.refl _ W6).alloc (Nat.le_refl _) (.cells (b.cells s2).toArray 61))
       have hn2 := heap_new W6 (b.cells s2).toArray 61 W6.heap.size rfl)
    | ((with_reducible refine at_load 61 ?_); refine wpList_value (by rfl) _ (run_load_box _ 61 _ (by rfl) W6.heap.size (by rfl) _ _ (0, 0) _ hn2 Tryd.underlying61 rfl (by rw [size_idx, List.size_toArray, Ix.cells_length])) ?_
       clear hn2 hS hO hP2
       have hS := Lib.hid hS1
       have hO := Lib.hid hO1
       have hP2 := Lib.hid hP3
       clear hS1 hO1 hP3)
    | ((with_reducible refine at_store 61 ?_); refine at_staddr 61 (w.heap.size + 1) 197 rfl ?_; refine wpList_rowsX rfl 61 _ _ rfl 197 rfl (b.cells s2) rfl (by rw [size_idx, Ix.cells_length]) hv.out.2 hS.out (a.cells s1) (Ix0.cells nilS) [] (by simp) (Ix.cells_length _ _) (by rw [Ix.cells_length, Ix.cells_length]) (fun W7 hS1 hA3 => ?_)
       rw [List.append_nil] at hS1
       have hO1 := hO.out.apart hA3 (by omega)
       have hP3 := hP2.out.apart hA3 (by omega)
       clear hS hO hP2 hv hA3
       have hS := Lib.hid hS1
       have hO := Lib.hid hO1
       have hP2 := Lib.hid hP3
       clear hS1 hO1 hP3)
    | ((with_reducible refine (RdO.fail hS.out 0 0 (0 : Int) rfl (if_pos rfl)).mono ?_)
       rintro e W8 ⟨rfl, hS1, hA4⟩
       have hO1 := hO.out.apart hA4 (by omega)
       have hP3 := hP2.out.apart hA4 (by omega)
       clear hS hO hP2 hA4
       have hS := Lib.hid hS1
       have hO := Lib.hid hO1
       have hP2 := Lib.hid hP3
       clear hS1 hO1 hP3)
    | ((with_reducible refine (RdO.open L 8 (8 : Int) rfl hL.out 2 (2 : Int) rfl (by decide) (err := 0) (if_pos (by omega)) (by decide) hs.out.row hs.out.cap hs.out.nil hlow.out (by rw [hL.out]; exact hfew)).mono ?_)
       rintro e W ⟨rfl, hS1, hW1⟩
       have hS := Lib.hid hS1
       have hW := Lib.hid hW1
       clear hS1 hW1)
    | ((with_reducible refine at_bslice 82 ?_); go_loud (refine wpList_plain rfl fun K hK => wp_ran _ (run_bslice_int2 _ _ (by rfl) (0 : Int) (4 : Int) (by rfl)) (hK _ _ ?_)); clear hK K
       have hS1 := hS.out.after ((Below.refl _ W).alloc (Nat.le_refl _) (.cells #[.int .i64 (0 : Int), .int .i64 (4 : Int)] 3))
       have hW1 := hW.out.later (((Below.refl _ W).alloc hW.out.size (.cells #[.int .i64 (0 : Int), .int .i64 (4 : Int)] 3)))
       have hz := hS.out.size)
    | ((with_reducible refine (RdO.offsG hS1 hW1 8 W.heap.size 2 2 (8 : Int) rfl [0, 4] (by rw [hL.out]; omega) rfl (by decide) (by rw [hL.out]; omega) (two_ps W) (by rw [World.size_alloc]; omega) (by omega) (two_in (by rw [hL.out]; omega)) hg.out).mono ?_)
       clear hS1 hW1 hz
       rintro e W2 ⟨rfl, hS2⟩
       clear hS hW
       have hS := Lib.hid hS2
       clear hS2)
    | ((with_reducible refine (RdO.laterS hS.out hB0.out hB3.out 8 o2 hA0.out hA1.out hq1 hq2 (by rw [hL.out]; omega) (by decide) P hP.out).mono ?_)
       rintro e W ⟨bb, ob, cb, rfl, hb1, hS1⟩
       clear hS
       have hS := Lib.hid hS1
       have hb := Lib.hid hb1
       clear hS1 hb1)
    | ((with_reducible refine (ix_read P 0 a hr1.out (some ⟨bb, ob, none⟩) cb _ hb.out hb.out.lowO (by omega)).mono ?_)
       rintro e W2 ⟨⟨s1, rfl, hO1⟩, hb1⟩
       have hO := Lib.hid (hO1.weak (base' := w.heap.size + 3) hS.out.size)
       have hS1 := hS.out.after hb1
       have hv := Lib.hid (idx_var W2 hO1.at)
       clear hO1 hb1 hb hS
       have hS := Lib.hid hS1
       clear hS1)
    | ((with_reducible refine at_alloc 61 ?_); go_loud (refine wpList_alloc_store rfl rfl 61 6 _ rfl rfl rfl (a.cells s1).toArray rfl rfl (zeroOf Tryd.prog 61) (by rw [Ix.cells_size]; exact (row_zero rowIdx0).1) (by rw [Ix.cells_size]; exact (row_zero rowIdx0).2) hv.out.1 ?_)
       have hS1 := hS.out.after ((Below.refl _ W2).alloc (Nat.le_refl _) (.cells (a.cells s1).toArray 61))
       have hO1 := hO.out.later ((Below.refl _ W2).alloc (Nat.le_refl _) (.cells (a.cells s1).toArray 61))
       have hn1 := heap_new W2 (a.cells s1).toArray 61 W2.heap.size rfl)
    | ((with_reducible refine at_load 61 ?_); refine wpList_value (by rfl) _ (run_load_box _ 61 _ (by rfl) W2.heap.size (by rfl) _ _ (0, 0) _ hn1 Tryd.underlying61 rfl (by rw [size_idx, List.size_toArray, Ix.cells_length])) ?_
       clear hn1 hS hO
       have hS := Lib.hid hS1
       have hO := Lib.hid hO1
       clear hS1 hO1)
    | ((with_reducible refine at_store 61 ?_); refine at_staddr 61 (w.heap.size + 1) 0 rfl ?_; refine wpList_rowsX rfl 61 _ _ rfl 0 rfl (a.cells s1) rfl (by rw [size_idx, Ix.cells_length]) hv.out.2 hS.out [] (Ix0.cells nilS) (Ix0.cells nilS) rfl rfl (by rw [Ix.cells_length, Ix.cells_length]) (fun W3 hS1 hA3 => ?_)
       have hO1 := hO.out.apart hA3 (by omega)
       clear hS hO hv hA3
       have hS := Lib.hid hS1
       have hO := Lib.hid hO1
       clear hS1 hO1)
    | ((with_reducible refine (RdO.fail hS.out 0 0 (0 : Int) rfl (if_pos rfl)).mono ?_)
       rintro e W4 ⟨rfl, hS1, hA4⟩
       have hO1 := hO.out.apart hA4 (by omega)
       clear hS hO hA4
       have hS := Lib.hid hS1
       have hO := Lib.hid hO1
       clear hS1 hO1)
    | ((with_reducible refine at_load 36 ?_); go_loud (refine wpList_value (by rfl) _ (run_load_cell _ 36 _ (by rfl) ⟨w.heap.size + 1 + 1, 4, none⟩ rfl (.int .i64 (0 : Int)) hS.out.errno _ Tryd.underlying36 rfl) ?_))
    | ((with_reducible refine at_load 68 ?_); go_loud (refine wpList_value (by rfl) _ (run_load_box _ 68 _ (by rfl) (w.heap.size + 1) (by rfl) _ _ (0, 0) _ hS.out.hX Tryd.underlying68 rfl (by rw [size_ats]; simp [Ix.cells_length])) ?_))
    | ((with_reducible refine at_store 68 ?_); refine at_staddr 68 w.heap.size 0 rfl ?_; go_loud (refine wpList_plain rfl fun K hK => wp_store_row 68 _ _ rfl w.heap.size rfl (atsC a b s1 s2).toArray rfl (atsC_one hO.out.at hP2.out.at) (by rw [size_ats, List.size_toArray, atsC_length]) _ 68 hS.out.hR (by rw [List.size_toArray, List.size_toArray, atsC_length]; rfl) (fun W11 hC11 hA11 => hK _ _ ?_)); clear hK K))
  have hRp : RepAts a b (atsC a b s1 s2).toArray W11 := ⟨s1, s2, rfl, (hO.out.apart hA11 (by omega)).at, (hP2.out.apart hA11 (by omega)).at⟩
  exact ret_mid_tmp rfl w.heap.size 0 (atsC a b s1 s2) _ rfl (range_whole hC11) Tryd.underlying68 rfl (by rw [size_ats, atsC_length]) rfl ⟨⟨_, rfl, hRp.size, hRp.one, hRp⟩, hA11.below hS.out.hB (Nat.le_refl _) (by have := hS.out.size; omega)⟩
end Go.Proofs.YtihelknkcomjpaaDoor
namespace Go.Proofs.YtihelknkcomjpaaDoor
open Go.RowKit BigFrame
set_option maxRecDepth 100000
theorem zsAt_ats (W : World) : IntsAt W.heap.size [0, 0] (W.alloc (.cells #[.int .i64 0, .int .i64 0] 3)) := by
  have h := zsV_at [0, 0] W
  rw [zsV_flat] at h
  exact h
theorem cutU_ats {l : List Int} (ho : offL l 0 = 8) : cutU [0, 0] l = [atsP l, atsQ l] := by
  simp [cutU, partU, cutO, cutA, headN, List.range_succ, ho, atsP, atsQ]
set_option maxHeartbeats 16000000 in
theorem rreadAts_short (l : List Int) (er : Nat) (he : er = 4) (va : Option Addr) (c : Nat) (w : World) (hs0 : SlB va c l w) (hfew : l.length ≤ 70368744177664) (h8 : l.length < 8) :
    Calls Tryd.prog 32 #[.slice va l.length c] w fun e w' => (∃ Y : Array Value, e = .returned (.tuple #[.agg Y, .int .i64 (er : Int)]) ∧ Y.size = 394 ∧ Y.all (·.oneCell') = true ∧ RepAts Ix0 Ix0 Y w') ∧ Below w.heap.size w w' := by
  subst he
  have hcut := Lib.hid (fun (W : World) (gs : Nat) (hZ : IntsAt gs [0, 0] W) => cut_short l va c gs [0, 0] 2 2 W hZ rfl (by decide) (by decide) (by decide) h8)
  have hs := Lib.hid hs0
  clear hs0
  obtain ⟨L, hL0⟩ : ∃ L, L = l.length := ⟨_, rfl⟩
  rw [← hL0] at hfew h8 ⊢
  have hL := Lib.hid hL0.symm
  clear hL0
  rw [hL.out] at hcut
  go_enter Tryd.func32, Tryd.ntmps32
  go_wp2_with (first
    | ((with_reducible refine at_alloc 68 ?_); refine wpList_plain rfl fun K hK => wp_alloc_row 68 rfl 2 rfl _ 394 infoAts (hK _ _ ?_); clear hK K)
    | ((with_reducible refine at_alloc 68 ?_); refine wpList_plain rfl fun K hK => wp_alloc_row 68 rfl 4 rfl _ 394 infoAts (hK _ _ ?_); clear hK K
       refine gen_l (fun W => RqX w.heap.size atsZ atsZ 68 w W) (RqX.begin rfl rfl rfl) ?_
       intro W hS1
       have hS := Lib.hid hS1
       clear hS1)
    | ((with_reducible refine (hcut.out _ W.heap.size ?hZ).mono ?hM)
       case hZ => exact zsAt_ats W
       rintro e W2 ⟨rfl, rfl⟩
       have hS1 := hS.out.later ((Below.refl _ W).alloc (Nat.le_refl _) (.cells #[.int .i64 0, .int .i64 0] 3)))
    | ((with_reducible refine at_load 68 ?_); go_loud (refine wpList_value (by rfl) _ (run_load_box _ 68 _ (by rfl) (w.heap.size + 1) (by rfl) _ _ (0, 0) _ hS1.hX Tryd.underlying68 rfl (by rw [size_ats]; rfl)) ?_))
    | ((with_reducible refine at_store 68 ?_); refine at_staddr 68 w.heap.size 0 rfl ?_; go_loud (refine wpList_plain rfl fun K hK => wp_store_row 68 _ _ rfl w.heap.size rfl _ rfl atsZ_one (by rw [size_ats]; rfl) _ 68 hS1.hR rfl (fun W11 hC11 hA11 => hK _ _ ?_)); clear hK K)
    )
  exact ret_mid_tmp rfl w.heap.size 0 atsZ _ rfl (range_whole hC11) Tryd.underlying68 rfl (by rw [size_ats]; rfl) rfl ⟨⟨_, rfl, (rep_ats0 W11).size, (rep_ats0 W11).one, rep_ats0 W11⟩, hA11.below hS1.hB (Nat.le_refl _) (by have := hS1.size; omega)⟩
set_option maxHeartbeats 16000000 in
theorem rreadAts_form (l : List Int) (er : Nat) (he : er = 5) (va : Option Addr) (c : Nat) (w : World) (hs0 : SlB va c l w) (hfew : l.length ≤ 70368744177664) (h8 : 8 ≤ l.length) (hg0 : ¬ offGood 8 l.length [offL l 0, offL l 4] 2) :
    Calls Tryd.prog 32 #[.slice va l.length c] w fun e w' => (∃ Y : Array Value, e = .returned (.tuple #[.agg Y, .int .i64 (er : Int)]) ∧ Y.size = 394 ∧ Y.all (·.oneCell') = true ∧ RepAts Ix0 Ix0 Y w') ∧ Below w.heap.size w w' := by
  subst he
  have hcut := Lib.hid (fun (W : World) (gs : Nat) (hl : SlB va c l W) (hZ : IntsAt gs [0, 0] W) => cutu_form l va c gs [0, 0] 2 2 W hl hZ rfl (by decide) (by decide) (by decide) h8 (by decide) hfew 2 rfl (by decide) hg0)
  clear hg0
  have hs := Lib.hid hs0
  clear hs0
  obtain ⟨L, hL0⟩ : ∃ L, L = l.length := ⟨_, rfl⟩
  rw [← hL0] at hfew h8 ⊢
  have hL := Lib.hid hL0.symm
  clear hL0
  rw [hL.out] at hcut
  go_enter Tryd.func32, Tryd.ntmps32
  go_wp2_with (first
    | ((with_reducible refine at_alloc 68 ?_); refine wpList_plain rfl fun K hK => wp_alloc_row 68 rfl 2 rfl _ 394 infoAts (hK _ _ ?_); clear hK K)
    | ((with_reducible refine at_alloc 68 ?_); refine wpList_plain rfl fun K hK => wp_alloc_row 68 rfl 4 rfl _ 394 infoAts (hK _ _ ?_); clear hK K
       refine gen_l (fun W => RqX w.heap.size atsZ atsZ 68 w W) (RqX.begin rfl rfl rfl) ?_
       intro W hS1
       have hS := Lib.hid hS1
       clear hS1)
    | ((with_reducible refine (hcut.out _ W.heap.size ?hI ?hZ).mono ?hM)
       case hI => exact (hs.out.later hS.out.hB).later ((Below.refl _ W).alloc (Nat.le_refl _) _)
       case hZ => exact zsAt_ats W
       rintro e W2 ⟨rfl, hb2⟩
       have hS1 := (hS.out.later ((Below.refl _ W).alloc (Nat.le_refl _) (.cells #[.int .i64 0, .int .i64 0] 3))).later hb2)
    | ((with_reducible refine at_load 68 ?_); go_loud (refine wpList_value (by rfl) _ (run_load_box _ 68 _ (by rfl) (w.heap.size + 1) (by rfl) _ _ (0, 0) _ hS1.hX Tryd.underlying68 rfl (by rw [size_ats]; rfl)) ?_))
    | ((with_reducible refine at_store 68 ?_); refine at_staddr 68 w.heap.size 0 rfl ?_; go_loud (refine wpList_plain rfl fun K hK => wp_store_row 68 _ _ rfl w.heap.size rfl _ rfl atsZ_one (by rw [size_ats]; rfl) _ 68 hS1.hR rfl (fun W11 hC11 hA11 => hK _ _ ?_)); clear hK K)
    )
  exact ret_mid_tmp rfl w.heap.size 0 atsZ _ rfl (range_whole hC11) Tryd.underlying68 rfl (by rw [size_ats]; rfl) rfl ⟨⟨_, rfl, (rep_ats0 W11).size, (rep_ats0 W11).one, rep_ats0 W11⟩, hA11.below hS1.hB (Nat.le_refl _) (by have := hS1.size; omega)⟩
set_option maxHeartbeats 16000000 in
theorem rreadAts_one (l : List Int) (e1 : Nat) (a : Ix) (h0 : e1 ≠ 0) (va : Option Addr) (c : Nat) (w : World) (hs0 : SlB va c l w) (hfew : l.length ≤ 70368744177664) (h8 : 8 ≤ l.length) (hg0 : offGood 8 l.length [offL l 0, offL l 4] 2) (hr10 : Ix.rd (atsP l) e1 a) :
    Calls Tryd.prog 32 #[.slice va l.length c] w fun e w' => (∃ Y : Array Value, e = .returned (.tuple #[.agg Y, .int .i64 (e1 : Int)]) ∧ Y.size = 394 ∧ Y.all (·.oneCell') = true ∧ RepAts Ix0 Ix0 Y w') ∧ Below w.heap.size w w' := by
  have hr1 := Lib.hid hr10
  clear hr10
  have hcut := Lib.hid (fun (W : World) (gs : Nat) (hl : SlB va c l W) (hZ : IntsAt gs [0, 0] W) => cutu_ok l va c gs [0, 0] 2 2 W hl hZ rfl (by decide) (by decide) (by decide) h8 (by decide) hfew 2 rfl (by decide) hg0)
  rw [cutU_ats (ats_offs h8 hg0).1] at hcut
  have hPl : (atsP l).length ≤ 70368744177664 := by unfold atsP; rw [List.length_take, List.length_drop]; omega
  have hQl : (atsQ l).length ≤ 70368744177664 := by unfold atsQ; rw [List.length_take, List.length_drop]; omega
  clear hg0
  generalize atsP l = P at *
  generalize atsQ l = Q at *
  have hs := Lib.hid hs0
  clear hs0
  obtain ⟨L, hL0⟩ : ∃ L, L = l.length := ⟨_, rfl⟩
  rw [← hL0] at hfew h8 ⊢
  have hL := Lib.hid hL0.symm
  clear hL0
  rw [hL.out] at hcut
  go_enter Tryd.func32, Tryd.ntmps32
  have hne2 : ((e1 : Int) != 0) = true := by simp [h0]
  go_wp2_with (first
    | ((with_reducible refine at_alloc 68 ?_); refine wpList_plain rfl fun K hK => wp_alloc_row 68 rfl 2 rfl _ 394 infoAts (hK _ _ ?_); clear hK K)
    | ((with_reducible refine at_alloc 68 ?_); refine wpList_plain rfl fun K hK => wp_alloc_row 68 rfl 4 rfl _ 394 infoAts (hK _ _ ?_); clear hK K
       refine gen_l (fun W => RqX w.heap.size atsZ atsZ 68 w W) (RqX.begin rfl rfl rfl) ?_
       intro W hS1
       have hS := Lib.hid hS1
       clear hS1)
    | ((with_reducible refine (hcut.out _ W.heap.size ?hI ?hZ).mono ?hM)
       case hI => exact (hs.out.later hS.out.hB).later ((Below.refl _ W).alloc (Nat.le_refl _) _)
       case hZ => exact zsAt_ats W
       rintro e W2 ⟨⟨v, rfl, hP1⟩, hb2⟩
       obtain ⟨gp, cp, rfl, hS1⟩ := RqP.of (hS.out.later ((Below.refl _ W).alloc (Nat.le_refl _) (.cells #[.int .i64 0, .int .i64 0] 3))) (k := 2) rfl hb2 hP1
       clear hS hP1 hb2
       have hS := Lib.hid hS1
       obtain ⟨vq, cq, hcq1, hq1, _⟩ := hS1.part 0 P.length P (by simp) rfl rfl
       have hcq := Lib.hid hcq1
       have hq := Lib.hid hq1
       clear hS1 hcq1 hq1)
    | ((with_reducible refine at_iaddr 96 ?_); refine wpList_value (by rfl) _ (run_index_slice _ 96 34 _ _ rfl Tryd.underlying96 1 sz_bs gp 0 2 cp rfl .i64 0 rfl (by decide) 0 (by decide)) ?_)
    | ((with_reducible refine at_load 34 ?_); refine wpList_value (by rfl) _ (run_load_cell _ 34 _ (by rfl) ⟨gp, 0, none⟩ rfl (.slice vq P.length cq) hcq.out _ Tryd.underlying34 rfl) ?_)
    | ((with_reducible refine (rix_read P e1 a hr1.out vq cq _ hq.out hPl).mono ?_)
       rintro e W3 ⟨⟨s1, rfl, hO1⟩, hb1⟩
       have hO := Lib.hid (hO1.weak (base' := w.heap.size + 2) hS.out.size)
       have hS1 := hS.out.later hb1
       have hv := Lib.hid (idx_var W3 hO1.at)
       clear hO1 hb1 hS hq hcq
       have hS := Lib.hid hS1
       clear hS1)
    | ((with_reducible refine at_store 61 ?_); refine at_staddr 61 (w.heap.size + 1) 0 rfl ?_; refine wpList_rowsP rfl 61 _ _ rfl 0 rfl (a.cells s1) rfl (by rw [size_idx, Ix.cells_length]) hv.out.2 hS.out [] (Ix0.cells nilS) (Ix0.cells nilS) rfl rfl (by rw [Ix.cells_length, Ix.cells_length]) (fun W4 hS1 hA3 => ?_)
       have hO1 := hO.out.apart hA3 (by omega)
       clear hS hO hv hA3
       have hS := Lib.hid hS1
       have hO := Lib.hid hO1
       clear hS1 hO1
       obtain ⟨vr, cr, hcr1, hr1', _⟩ := hS.out.part 1 Q.length Q (by simp) rfl rfl
       have hcr := Lib.hid hcr1
       have hrq := Lib.hid hr1'
       clear hcr1 hr1')
    | ((with_reducible refine at_build 68 ?_); go_loud (refine wpList_value (by rfl) _ (run_build_ats0 _ rfl) ?_))
    | ((with_reducible refine at_store 68 ?_); refine at_staddr 68 w.heap.size 0 rfl ?_; go_loud (refine wpList_plain rfl fun K hK => wp_store_row 68 _ _ rfl w.heap.size rfl _ rfl atsZ_one (by rw [size_ats]; rfl) _ 68 hS.out.hR rfl (fun W11 hC11 hA11 => hK _ _ ?_)); clear hK K)
    )
  exact ret_mid_tmp rfl w.heap.size 0 atsZ _ rfl (range_whole hC11) Tryd.underlying68 rfl (by rw [size_ats]; rfl) rfl ⟨⟨_, rfl, (rep_ats0 W11).size, (rep_ats0 W11).one, rep_ats0 W11⟩, hA11.below hS.out.hB (Nat.le_refl _) (by have := hS.out.size; omega)⟩
set_option maxHeartbeats 16000000 in
theorem rreadAts_two (l : List Int) (e2 : Nat) (a b : Ix) (h0 : e2 ≠ 0) (va : Option Addr) (c : Nat) (w : World) (hs0 : SlB va c l w) (hfew : l.length ≤ 70368744177664) (h8 : 8 ≤ l.length) (hg0 : offGood 8 l.length [offL l 0, offL l 4] 2) (hr10 : Ix.rd (atsP l) 0 a) (hr20 : Ix.rd (atsQ l) e2 b) :
    Calls Tryd.prog 32 #[.slice va l.length c] w fun e w' => (∃ Y : Array Value, e = .returned (.tuple #[.agg Y, .int .i64 (e2 : Int)]) ∧ Y.size = 394 ∧ Y.all (·.oneCell') = true ∧ RepAts Ix0 Ix0 Y w') ∧ Below w.heap.size w w' := by
  have hr1 := Lib.hid hr10
  have hr2 := Lib.hid hr20
  clear hr10 hr20
  have hcut := Lib.hid (fun (W : World) (gs : Nat) (hl : SlB va c l W) (hZ : IntsAt gs [0, 0] W) => cutu_ok l va c gs [0, 0] 2 2 W hl hZ rfl (by decide) (by decide) (by decide) h8 (by decide) hfew 2 rfl (by decide) hg0)
  rw [cutU_ats (ats_offs h8 hg0).1] at hcut
  have hPl : (atsP l).length ≤ 70368744177664 := by unfold atsP; rw [List.length_take, List.length_drop]; omega
  have hQl : (atsQ l).length ≤ 70368744177664 := by unfold atsQ; rw [List.length_take, List.length_drop]; omega
  clear hg0
  generalize atsP l = P at *
  generalize atsQ l = Q at *
  have hs := Lib.hid hs0
  clear hs0
  obtain ⟨L, hL0⟩ : ∃ L, L = l.length := ⟨_, rfl⟩
  rw [← hL0] at hfew h8 ⊢
  have hL := Lib.hid hL0.symm
  clear hL0
  rw [hL.out] at hcut
  go_enter Tryd.func32, Tryd.ntmps32
  have hne2 : ((e2 : Int) != 0) = true := by simp [h0]
  go_wp2_with (first
    | ((with_reducible refine at_alloc 68 ?_); refine wpList_plain rfl fun K hK => wp_alloc_row 68 rfl 2 rfl _ 394 infoAts (hK _ _ ?_); clear hK K)
    | ((with_reducible refine at_alloc 68 ?_); refine wpList_plain rfl fun K hK => wp_alloc_row 68 rfl 4 rfl _ 394 infoAts (hK _ _ ?_); clear hK K
       refine gen_l (fun W => RqX w.heap.size atsZ atsZ 68 w W) (RqX.begin rfl rfl rfl) ?_
       intro W hS1
       have hS := Lib.hid hS1
       clear hS1)
    | ((with_reducible refine at_iaddr 96 ?_); refine wpList_value (by rfl) _ (run_index_slice _ 96 34 _ _ rfl Tryd.underlying96 1 sz_bs gp 0 2 cp rfl .i64 1 rfl (by decide) 1 (by decide)) ?_)
    | ((with_reducible refine at_load 34 ?_); refine wpList_value (by rfl) _ (run_load_cell _ 34 _ (by rfl) ⟨gp, 1, none⟩ rfl (.slice vr Q.length cr) hcr.out _ Tryd.underlying34 rfl) ?_)
    | ((with_reducible refine (rix_read Q e2 b hr2.out vr cr _ hrq.out hQl).mono ?_)
       rintro e W6 ⟨⟨s2, rfl, hO1⟩, hb1⟩
       have hP2 := Lib.hid (hO1.weak (base' := w.heap.size + 2) hS.out.size)
       have hS1 := hS.out.later hb1
       have hO5 := hO.out.later hb1
       have hv := Lib.hid (idx_var W6 hO1.at)
       clear hO1 hb1 hS hO hrq hcr
       have hS := Lib.hid hS1
       have hO := Lib.hid hO5
       clear hS1 hO5)
    | ((with_reducible refine at_store 61 ?_); refine at_staddr 61 (w.heap.size + 1) 197 rfl ?_; refine wpList_rowsP rfl 61 _ _ rfl 197 rfl (b.cells s2) rfl (by rw [size_idx, Ix.cells_length]) hv.out.2 hS.out (a.cells s1) (Ix0.cells nilS) [] (by simp) (Ix.cells_length _ _) (by rw [Ix.cells_length, Ix.cells_length]) (fun W7 hS1 hA3 => ?_)
       rw [List.append_nil] at hS1
       have hO1 := hO.out.apart hA3 (by omega)
       have hP3 := hP2.out.apart hA3 (by omega)
       clear hS hO hP2 hv hA3
       have hS := Lib.hid hS1
       have hO := Lib.hid hO1
       have hP2 := Lib.hid hP3
       clear hS1 hO1 hP3)
    | ((with_reducible refine (hcut.out _ W.heap.size ?hI ?hZ).mono ?hM)
       case hI => exact (hs.out.later hS.out.hB).later ((Below.refl _ W).alloc (Nat.le_refl _) _)
       case hZ => exact zsAt_ats W
       rintro e W2 ⟨⟨v, rfl, hP1⟩, hb2⟩
       obtain ⟨gp, cp, rfl, hS1⟩ := RqP.of (hS.out.later ((Below.refl _ W).alloc (Nat.le_refl _) (.cells #[.int .i64 0, .int .i64 0] 3))) (k := 2) rfl hb2 hP1
       clear hS hP1 hb2
       have hS := Lib.hid hS1
       obtain ⟨vq, cq, hcq1, hq1, _⟩ := hS1.part 0 P.length P (by simp) rfl rfl
       have hcq := Lib.hid hcq1
       have hq := Lib.hid hq1
       clear hS1 hcq1 hq1)
    | ((with_reducible refine at_iaddr 96 ?_); refine wpList_value (by rfl) _ (run_index_slice _ 96 34 _ _ rfl Tryd.underlying96 1 sz_bs gp 0 2 cp rfl .i64 0 rfl (by decide) 0 (by decide)) ?_)
    | ((with_reducible refine at_load 34 ?_); refine wpList_value (by rfl) _ (run_load_cell _ 34 _ (by rfl) ⟨gp, 0, none⟩ rfl (.slice vq P.length cq) hcq.out _ Tryd.underlying34 rfl) ?_)
    | ((with_reducible refine (rix_read P 0 a hr1.out vq cq _ hq.out hPl).mono ?_)
       rintro e W3 ⟨⟨s1, rfl, hO1⟩, hb1⟩
       have hO := Lib.hid (hO1.weak (base' := w.heap.size + 2) hS.out.size)
       have hS1 := hS.out.later hb1
       have hv := Lib.hid (idx_var W3 hO1.at)
       clear hO1 hb1 hS hq hcq
       have hS := Lib.hid hS1
       clear hS1)
    | ((with_reducible refine at_store 61 ?_); refine at_staddr 61 (w.heap.size + 1) 0 rfl ?_; refine wpList_rowsP rfl 61 _ _ rfl 0 rfl (a.cells s1) rfl (by rw [size_idx, Ix.cells_length]) hv.out.2 hS.out [] (Ix0.cells nilS) (Ix0.cells nilS) rfl rfl (by rw [Ix.cells_length, Ix.cells_length]) (fun W4 hS1 hA3 => ?_)
       have hO1 := hO.out.apart hA3 (by omega)
       clear hS hO hv hA3
       have hS := Lib.hid hS1
       have hO := Lib.hid hO1
       clear hS1 hO1
       obtain ⟨vr, cr, hcr1, hr1', _⟩ := hS.out.part 1 Q.length Q (by simp) rfl rfl
       have hcr := Lib.hid hcr1
       have hrq := Lib.hid hr1'
       clear hcr1 hr1')
    | ((with_reducible refine at_build 68 ?_); go_loud (refine wpList_value (by rfl) _ (run_build_ats0 _ rfl) ?_))
    | ((with_reducible refine at_store 68 ?_); refine at_staddr 68 w.heap.size 0 rfl ?_; go_loud (refine wpList_plain rfl fun K hK => wp_store_row 68 _ _ rfl w.heap.size rfl _ rfl atsZ_one (by rw [size_ats]; rfl) _ 68 hS.out.hR rfl (fun W11 hC11 hA11 => hK _ _ ?_)); clear hK K)
    )
  exact ret_mid_tmp rfl w.heap.size 0 atsZ _ rfl (range_whole hC11) Tryd.underlying68 rfl (by rw [size_ats]; rfl) rfl ⟨⟨_, rfl, (rep_ats0 W11).size, (rep_ats0 W11).one, rep_ats0 W11⟩, hA11.below hS.out.hB (Nat.le_refl _) (by have := hS.out.size; omega)⟩
set_option maxHeartbeats 16000000 in
theorem rreadAts_ok (l : List Int) (a b : Ix) (va : Option Addr) (c : Nat) (w : World) (hs0 : SlB va c l w) (hfew : l.length ≤ 70368744177664) (h8 : 8 ≤ l.length) (hg0 : offGood 8 l.length [offL l 0, offL l 4] 2) (hr10 : Ix.rd (atsP l) 0 a) (hr20 : Ix.rd (atsQ l) 0 b) :
    Calls Tryd.prog 32 #[.slice va l.length c] w fun e w' => (∃ Y : Array Value, e = .returned (.tuple #[.agg Y, .int .i64 ((0 : Nat) : Int)]) ∧ Y.size = 394 ∧ Y.all (·.oneCell') = true ∧ RepAts a b Y w') ∧ Below w.heap.size w w' := by
  have hr1 := Lib.hid hr10
  have hr2 := Lib.hid hr20
  clear hr10 hr20
  have hcut := Lib.hid (fun (W : World) (gs : Nat) (hl : SlB va c l W) (hZ : IntsAt gs [0, 0] W) => cutu_ok l va c gs [0, 0] 2 2 W hl hZ rfl (by decide) (by decide) (by decide) h8 (by decide) hfew 2 rfl (by decide) hg0)
  rw [cutU_ats (ats_offs h8 hg0).1] at hcut
  have hPl : (atsP l).length ≤ 70368744177664 := by unfold atsP; rw [List.length_take, List.length_drop]; omega
  have hQl : (atsQ l).length ≤ 70368744177664 := by unfold atsQ; rw [List.length_take, List.length_drop]; omega
  clear hg0
  generalize atsP l = P at *
  generalize atsQ l = Q at *
  have hs := Lib.hid hs0
  clear hs0
  obtain ⟨L, hL0⟩ : ∃ L, L = l.length := ⟨_, rfl⟩
  rw [← hL0] at hfew h8 ⊢
  have hL := Lib.hid hL0.symm
  clear hL0
  rw [hL.out] at hcut
  go_enter Tryd.func32, Tryd.ntmps32
  go_wp2_with (first
    | ((with_reducible refine at_alloc 68 ?_); refine wpList_plain rfl fun K hK => wp_alloc_row 68 rfl 2 rfl _ 394 infoAts (hK _ _ ?_); clear hK K)
    | ((with_reducible refine at_alloc 68 ?_); refine wpList_plain rfl fun K hK => wp_alloc_row 68 rfl 4 rfl _ 394 infoAts (hK _ _ ?_); clear hK K
       refine gen_l (fun W => RqX w.heap.size atsZ atsZ 68 w W) (RqX.begin rfl rfl rfl) ?_
       intro W hS1
       have hS := Lib.hid hS1
       clear hS1)
    | ((with_reducible refine at_iaddr 96 ?_); refine wpList_value (by rfl) _ (run_index_slice _ 96 34 _ _ rfl Tryd.underlying96 1 sz_bs gp 0 2 cp rfl .i64 1 rfl (by decide) 1 (by decide)) ?_)
    | ((with_reducible refine at_load 34 ?_); refine wpList_value (by rfl) _ (run_load_cell _ 34 _ (by rfl) ⟨gp, 1, none⟩ rfl (.slice vr Q.length cr) hcr.out _ Tryd.underlying34 rfl) ?_)
    | ((with_reducible refine (rix_read Q 0 b hr2.out vr cr _ hrq.out hQl).mono ?_)
       rintro e W6 ⟨⟨s2, rfl, hO1⟩, hb1⟩
       have hP2 := Lib.hid (hO1.weak (base' := w.heap.size + 2) hS.out.size)
       have hS1 := hS.out.later hb1
       have hO5 := hO.out.later hb1
       have hv := Lib.hid (idx_var W6 hO1.at)
       clear hO1 hb1 hS hO hrq hcr
       have hS := Lib.hid hS1
       have hO := Lib.hid hO5
       clear hS1 hO5)
    | ((with_reducible refine at_store 61 ?_); refine at_staddr 61 (w.heap.size + 1) 197 rfl ?_; refine wpList_rowsP rfl 61 _ _ rfl 197 rfl (b.cells s2) rfl (by rw [size_idx, Ix.cells_length]) hv.out.2 hS.out (a.cells s1) (Ix0.cells nilS) [] (by simp) (Ix.cells_length _ _) (by rw [Ix.cells_length, Ix.cells_length]) (fun W7 hS1 hA3 => ?_)
       rw [List.append_nil] at hS1
       have hO1 := hO.out.apart hA3 (by omega)
       have hP3 := hP2.out.apart hA3 (by omega)
       clear hS hO hP2 hv hA3
       have hS := Lib.hid hS1
       have hO := Lib.hid hO1
       have hP2 := Lib.hid hP3
       clear hS1 hO1 hP3)
    | ((with_reducible refine (hcut.out _ W.heap.size ?hI ?hZ).mono ?hM)
       case hI => exact (hs.out.later hS.out.hB).later ((Below.refl _ W).alloc (Nat.le_refl _) _)
       case hZ => exact zsAt_ats W
       rintro e W2 ⟨⟨v, rfl, hP1⟩, hb2⟩
       obtain ⟨gp, cp, rfl, hS1⟩ := RqP.of (hS.out.later ((Below.refl _ W).alloc (Nat.le_refl _) (.cells #[.int .i64 0, .int .i64 0] 3))) (k := 2) rfl hb2 hP1
       clear hS hP1 hb2
       have hS := Lib.hid hS1
       obtain ⟨vq, cq, hcq1, hq1, _⟩ := hS1.part 0 P.length P (by simp) rfl rfl
       have hcq := Lib.hid hcq1
       have hq := Lib.hid hq1
       clear hS1 hcq1 hq1)
    | ((with_reducible refine at_iaddr 96 ?_); refine wpList_value (by rfl) _ (run_index_slice _ 96 34 _ _ rfl Tryd.underlying96 1 sz_bs gp 0 2 cp rfl .i64 0 rfl (by decide) 0 (by decide)) ?_)
    | ((with_reducible refine at_load 34 ?_); refine wpList_value (by rfl) _ (run_load_cell _ 34 _ (by rfl) ⟨gp, 0, none⟩ rfl (.slice vq P.length cq) hcq.out _ Tryd.underlying34 rfl) ?_)
    | ((with_reducible refine (rix_read P 0 a hr1.out vq cq _ hq.out hPl).mono ?_)
       rintro e W3 ⟨⟨s1, rfl, hO1⟩, hb1⟩
       have hO := Lib.hid (hO1.weak (base' := w.heap.size + 2) hS.out.size)
       have hS1 := hS.out.later hb1
       have hv := Lib.hid (idx_var W3 hO1.at)
       clear hO1 hb1 hS hq hcq
       have hS := Lib.hid hS1
       clear hS1)
    | ((with_reducible refine at_store 61 ?_); refine at_staddr 61 (w.heap.size + 1) 0 rfl ?_; refine wpList_rowsP rfl 61 _ _ rfl 0 rfl (a.cells s1) rfl (by rw [size_idx, Ix.cells_length]) hv.out.2 hS.out [] (Ix0.cells nilS) (Ix0.cells nilS) rfl rfl (by rw [Ix.cells_length, Ix.cells_length]) (fun W4 hS1 hA3 => ?_)
       have hO1 := hO.out.apart hA3 (by omega)
       clear hS hO hv hA3
       have hS := Lib.hid hS1
       have hO := Lib.hid hO1
       clear hS1 hO1
       obtain ⟨vr, cr, hcr1, hr1', _⟩ := hS.out.part 1 Q.length Q (by simp) rfl rfl
       have hcr := Lib.hid hcr1
       have hrq := Lib.hid hr1'
       clear hcr1 hr1')
    | ((with_reducible refine at_load 68 ?_); go_loud (refine wpList_value (by rfl) _ (run_load_box _ 68 _ (by rfl) (w.heap.size + 1) (by rfl) _ _ (0, 0) _ hS.out.hX Tryd.underlying68 rfl (by rw [size_ats]; simp [Ix.cells_length])) ?_))
    | ((with_reducible refine at_store 68 ?_); refine at_staddr 68 w.heap.size 0 rfl ?_; go_loud (refine wpList_plain rfl fun K hK => wp_store_row 68 _ _ rfl w.heap.size rfl (atsC a b s1 s2).toArray rfl (atsC_one hO.out.at hP2.out.at) (by rw [size_ats, List.size_toArray, atsC_length]) _ 68 hS.out.hR (by rw [List.size_toArray, List.size_toArray, atsC_length]; rfl) (fun W11 hC11 hA11 => hK _ _ ?_)); clear hK K))
  have hRp : RepAts a b (atsC a b s1 s2).toArray W11 := ⟨s1, s2, rfl, (hO.out.apart hA11 (by omega)).at, (hP2.out.apart hA11 (by omega)).at⟩
  exact ret_mid_tmp rfl w.heap.size 0 (atsC a b s1 s2) _ rfl (range_whole hC11) Tryd.underlying68 rfl (by rw [size_ats, atsC_length]) rfl ⟨⟨_, rfl, hRp.size, hRp.one, hRp⟩, hA11.below hS.out.hB (Nat.le_refl _) (by have := hS.out.size; omega)⟩
end Go.Proofs.YtihelknkcomjpaaDoor
