/- The library's sort at uint64: what changes places, in plain words; cmp.Less. -/
/- The library's sort at uint64: insertionSortOrdered. -/
/- The library's sort at uint64: reverseRangeOrdered. -/
import Derived.Test.YtfnjcpopadpmbaaDoorJCmH
import Derived.Test.YtfnjcpopadpmbaaDoorJCmM
set_option linter.unusedVariables false
set_option linter.unusedSimpArgs false
set_option linter.unnecessarySimpa false
namespace Go.Proofs.YtfnjcpopadpmbaaDoor
open Go.RowKit BigFrame
set_option maxRecDepth 100000
/-- Two that change places. -/
def swp (l : List Int) (i j : Nat) : List Int := (l.set i (l.getD j 0)).set j (l.getD i 0)
theorem swp_length (l : List Int) (i j : Nat) : (swp l i j).length = l.length := by simp [swp]
theorem getD_set (l : List Int) (i k : Nat) (x : Int) (h : i < l.length) : (l.set i x).getD k 0 = if k = i then x else l.getD k 0 := by
  simp only [List.getD, List.getElem?_set]
  by_cases e : i = k
  · subst e
    simp [h]
  · rw [if_neg e, if_neg (fun h => e h.symm)]
theorem swp_get (l : List Int) (i j k : Nat) (hi : i < l.length) (hj : j < l.length) : (swp l i j).getD k 0 = if k = j then l.getD i 0 else if k = i then l.getD j 0 else l.getD k 0 := by
  unfold swp
  rw [getD_set _ _ _ _ (by simpa using hj), getD_set _ _ _ _ hi]
theorem swp_count (l : List Int) (i j : Nat) (v : Int) (hi : i < l.length) (hj : j < l.length) : (swp l i j).count v = l.count v := by
  unfold swp
  have e1 : l.getD i 0 = l[i] := by simp [List.getD, hi]
  have e2 : l.getD j 0 = l[j] := by simp [List.getD, hj]
  rw [e1, e2]
  have h2 : j < (l.set i l[j]).length := by simpa using hj
  have e3 : (l.set i l[j])[j] = l[j] := by
    rw [List.getElem_set]
    split
    · rfl
    · rfl
  rw [List.count_set h2, e3, List.count_set hi]
  have p1 : (if l[i] == v then 1 else 0) ≤ l.count v := by
    split
    · rename_i hq
      have : l[i] = v := by simpa using hq
      exact List.count_pos_iff.2 (this ▸ List.getElem_mem hi)
    · omega
  omega
/-- What changes places only between a and b. -/
structure SegP (a b : Nat) (l l' : List Int) : Prop where
  len : l'.length = l.length
  out : ∀ i, (i < a ∨ b ≤ i) → l'.getD i 0 = l.getD i 0
  cnt : ∀ v, l'.count v = l.count v
  mem : ∀ i, a ≤ i → i < b → ∃ j, a ≤ j ∧ j < b ∧ l'.getD i 0 = l.getD j 0
theorem SegP.refl (a b : Nat) (l : List Int) : SegP a b l l := ⟨rfl, fun _ _ => rfl, fun _ => rfl, fun i h1 h2 => ⟨i, h1, h2, rfl⟩⟩
theorem SegP.trans {a b : Nat} {l m r : List Int} (h : SegP a b l m) (k : SegP a b m r) : SegP a b l r :=
  ⟨k.len.trans h.len, fun i hi => (k.out i hi).trans (h.out i hi), fun v => (k.cnt v).trans (h.cnt v), fun i h1 h2 => by
    obtain ⟨j, j1, j2, j3⟩ := k.mem i h1 h2
    obtain ⟨q, q1, q2, q3⟩ := h.mem j j1 j2
    exact ⟨q, q1, q2, j3.trans q3⟩⟩
theorem SegP.swp {a b : Nat} {l m : List Int} (h : SegP a b l m) {i j : Nat} (hi : a ≤ i ∧ i < b) (hj : a ≤ j ∧ j < b) (hb : b ≤ l.length) : SegP a b l (swp m i j) := by
  have hl := h.len
  refine h.trans ⟨swp_length _ _ _, fun k hk => ?_, fun v => swp_count _ _ _ _ (by omega) (by omega), fun k h1 h2 => ?_⟩
  · rw [swp_get _ _ _ _ (by omega) (by omega), if_neg (by omega), if_neg (by omega)]
  · rw [swp_get _ _ _ _ (by omega) (by omega)]
    by_cases c1 : k = j
    · exact ⟨i, hi.1, hi.2, by rw [if_pos c1]⟩
    · by_cases c2 : k = i
      · exact ⟨j, hj.1, hj.2, by rw [if_neg c1, if_pos c2]⟩
      · exact ⟨k, h1, h2, by rw [if_neg c1, if_neg c2]⟩
theorem SegP.wide {a b a' b' : Nat} {l l' : List Int} (h : SegP a b l l') (ha : a' ≤ a) (hb : b ≤ b') : SegP a' b' l l' := ⟨h.len, fun i hi => h.out i (by omega), h.cnt, fun i h1 h2 => by
  by_cases c : a ≤ i ∧ i < b
  · obtain ⟨j, j1, j2, j3⟩ := h.mem i c.1 c.2
    exact ⟨j, by omega, by omega, j3⟩
  · exact ⟨i, h1, h2, h.out i (by omega)⟩⟩
theorem SegP.perm {a b : Nat} {l l' : List Int} (h : SegP a b l l') : l'.Perm l := List.perm_iff_count.2 h.cnt
/-- No number twice. -/
def Dis (l : List Int) : Prop := l.Nodup
theorem SegP.dis {a b : Nat} {l l' : List Int} (h : SegP a b l l') (d : Dis l) : Dis l' := h.perm.nodup_iff.2 d
theorem Dis.ne {l : List Int} (d : Dis l) {i j : Nat} (hi : i < l.length) (hj : j < l.length) (e : i ≠ j) : l.getD i 0 ≠ l.getD j 0 := by
  intro h
  have h1 : l.getD i 0 = l[i] := by simp [List.getD, hi]
  have h2 : l.getD j 0 = l[j] := by simp [List.getD, hj]
  rw [h1, h2] at h
  exact e (List.getElem_inj d |>.1 h)
/-- Rising from a up to b. -/
def SortedIn (a b : Nat) (l : List Int) : Prop := ∀ p q, a ≤ p → p ≤ q → q < b → l.getD p 0 ≤ l.getD q 0
set_option maxHeartbeats 1000000 in
theorem nan_any (x : Int) (w : World) : Calls Tryd.prog 68 #[.int .u64 x] w fun e w' => e = .returned (.bool false) ∧ w = w' := by
  have hx : (x != x) = false := by simp
  go_enter Tryd.func68, Tryd.ntmps68
  go_wp2
  exact ret_t1 rfl _ rfl rfl ⟨rfl, rfl⟩
set_option maxHeartbeats 1000000 in
theorem less_any (x y : Int) (w : World) : Calls Tryd.prog 53 #[.int .u64 x, .int .u64 y] w fun e w' => e = .returned (.bool (decide (x < y))) ∧ w = w' := by
  go_enter Tryd.func53, Tryd.ntmps53
  go_wp2_with (
    ((with_reducible refine (nan_any _ _).mono ?_); rintro e w' ⟨rfl, rfl⟩))
  exact ret_t1 rfl _ rfl rfl ⟨rfl, rfl⟩
end Go.Proofs.YtfnjcpopadpmbaaDoor
namespace Go.Proofs.YtfnjcpopadpmbaaDoor
open Go.RowKit BigFrame
set_option maxRecDepth 100000
/-- Rising up to i, but for the one at j, which is below all behind it. -/
structure Hole (a i j : Nat) (M : List Int) : Prop where
  rest : ∀ p q, a ≤ p → p ≤ q → q ≤ i → p ≠ j → q ≠ j → M.getD p 0 ≤ M.getD q 0
  low : ∀ q, j < q → q ≤ i → M.getD j 0 ≤ M.getD q 0
theorem Hole.start {a i : Nat} {M : List Int} (h : SortedIn a i M) : Hole a i i M :=
  ⟨fun p q h1 h2 h3 h4 h5 => h p q h1 h2 (by omega), fun q h1 h2 => by omega⟩
theorem Hole.sorted0 {a i : Nat} {M : List Int} (h : Hole a i a M) : SortedIn a (i + 1) M := fun p q h1 h2 h3 => by
  by_cases e : p = a
  · by_cases e2 : q = a
    · rw [e, e2]; exact Int.le_refl _
    · rw [e]; exact h.low q (by omega) (by omega)
  · exact h.rest p q h1 h2 (by omega) e (by omega)
theorem Hole.sorted {a i j jm : Nat} {M : List Int} (h : Hole a i j M) (ha : a < j) (hj : j ≤ i) (hm : jm + 1 = j) (hle : M.getD jm 0 ≤ M.getD j 0) : SortedIn a (i + 1) M := fun p q h1 h2 h3 => by
  by_cases e : p = j
  · by_cases e2 : q = j
    · rw [e, e2]; exact Int.le_refl _
    · rw [e]; exact h.low q (by omega) (by omega)
  · by_cases e2 : q = j
    · rw [e2]
      exact Int.le_trans (h.rest p jm h1 (by omega) (by omega) e (by omega)) hle
    · exact h.rest p q h1 h2 (by omega) e e2
theorem Hole.step {a i j jm : Nat} {M : List Int} (h : Hole a i j M) (ha : a < j) (hj : j ≤ i) (hm : jm + 1 = j) (hi : i < M.length) (hlt : M.getD j 0 < M.getD jm 0) : Hole a i jm (swp M j jm) := by
  have g := fun k => swp_get M j jm k (by omega) (by omega)
  refine ⟨fun p q h1 h2 h3 h4 h5 => ?_, fun q h1 h2 => ?_⟩
  · rw [g p, g q, if_neg h4, if_neg h5]
    by_cases e : p = j
    · rw [if_pos e]
      by_cases e2 : q = j
      · rw [if_pos e2]; exact Int.le_refl _
      · rw [if_neg e2]; exact h.rest jm q (by omega) (by omega) h3 (by omega) e2
    · rw [if_neg e]
      by_cases e2 : q = j
      · rw [if_pos e2]; exact h.rest p jm h1 (by omega) (by omega) e (by omega)
      · rw [if_neg e2]; exact h.rest p q h1 h2 h3 e e2
  · rw [g jm, g q, if_pos rfl, if_neg (by omega)]
    by_cases e : q = j
    · rw [if_pos e]; omega
    · rw [if_neg e]; exact h.low q (by omega) h2
theorem swp_two (M : List Int) (i j : Nat) : (M.set i (M.getD j 0)).set j (M.getD i 0) = swp M i j := rfl
set_option maxHeartbeats 16000000 in
theorem ins_any (base g n cap a b : Nat) (l : List Int) (w : World) (hO0 : OwU base (.slice (some ⟨g, 0, none⟩) n cap) l w) (hl0 : l.length = n) (hab : a ≤ b) (hb : b ≤ n) (hn : n ≤ 1000000) :
    Calls Tryd.prog 47 #[.slice (some ⟨g, 0, none⟩) n cap, .int .i64 (a : Int), .int .i64 (b : Int)] w fun e w' => e = .returned (.tuple #[]) ∧ ∃ l', OwU base (.slice (some ⟨g, 0, none⟩) n cap) l' w' ∧ SegP a b l l' ∧ SortedIn a b l' ∧ Apart g w w' := by
  have hO := Lib.hid hO0
  have hl := Lib.hid hl0
  clear hO0 hl0
  have wa : IntKind.i64.wrap ((a : Int) + 1) = ((a + 1 : Nat) : Int) := by rw [IntKind.wrap_i64]; omega
  obtain ⟨a1, ha1⟩ : ∃ a1, a1 = a + 1 := ⟨_, rfl⟩
  rw [← ha1] at wa
  have ga1 := Lib.hid ha1
  clear ha1
  go_enter Tryd.func47, Tryd.ntmps47
  go_wp2
  go_loopw [6] (fun vi wr => ∃ (i : Nat) (L : List Int), a < i ∧ (i ≤ b ∨ i = a + 1) ∧ vi = .int .i64 (i : Int) ∧ OwU base (.slice (some ⟨g, 0, none⟩) n cap) L wr ∧ SegP a b l L ∧ SortedIn a i L ∧ Apart g w wr) (fun vi _ => b - (intOf vi).toNat)
  case atStart => exact ⟨a1, l, by have := ga1.out; omega, by have := ga1.out; omega, rfl, hO.out, SegP.refl _ _ _, fun p q h1 h2 h3 => by have := ga1.out; rw [show p = q by omega]; exact Int.le_refl _, Apart.refl _ _⟩
  case round =>
    obtain ⟨i, L, hai, hib, rfl, hOL, hSL, hsort, hA⟩ := hrel
    have gO := Lib.hid hOL
    have gS := Lib.hid hSL
    have gso := Lib.hid hsort
    have gA := Lib.hid hA
    clear hOL hSL hsort hA
    by_cases hlt : i < b
    · have lk : decide ((i : Int) < (b : Int)) = true := by simp; omega
      have wi : IntKind.i64.wrap ((i : Int) + 1) = ((i + 1 : Nat) : Int) := by rw [IntKind.wrap_i64]; omega
      go_wp2
      rename World => w1
      go_loopw [7] (fun vj wr => ∃ (j : Nat) (M : List Int), a ≤ j ∧ j ≤ i ∧ vj = .int .i64 (j : Int) ∧ OwU base (.slice (some ⟨g, 0, none⟩) n cap) M wr ∧ SegP a b l M ∧ Hole a i j M ∧ Apart g w wr) (fun vj _ => (intOf vj).toNat)
      case atStart => exact ⟨i, L, by omega, Nat.le_refl _, rfl, gO.out, gS.out, Hole.start gso.out, gA.out⟩
      case round =>
        obtain ⟨j, M, haj, hji, rfl, hOM, hSM, hH, hAM⟩ := hrel
        have hO2 := Lib.hid hOM
        have hS2 := Lib.hid hSM
        have hH2 := Lib.hid hH
        have hA2 := Lib.hid hAM
        have hML := Lib.hid (hSM.len.trans hl.out)
        clear hOM hSM hH hAM
        by_cases hj : a < j
        · obtain ⟨jm, hjm⟩ : ∃ jm, jm + 1 = j := ⟨j - 1, by omega⟩
          have wj : IntKind.i64.wrap ((j : Int) - 1) = (jm : Int) := by rw [IntKind.wrap_i64]; omega
          have lj : decide ((a : Int) < (j : Int)) = true := by simp; omega
          have hjn : j < n := by omega
          have hjmn : jm < n := by omega
          have cj := hO2.out.cell j (by rw [hML.out]; exact hjn)
          have cm := hO2.out.cell jm (by rw [hML.out]; exact hjmn)
          obtain ⟨x, hx⟩ : ∃ x, x = M.getD j 0 := ⟨_, rfl⟩
          obtain ⟨y, hy⟩ : ∃ y, y = M.getD jm 0 := ⟨_, rfl⟩
          rw [← hx] at cj
          rw [← hy] at cm
          have gj := Lib.hid cj
          have gm := Lib.hid cm
          have gjm := Lib.hid hjm
          have gx := Lib.hid hx
          have gy := Lib.hid hy
          clear cj cm hjm hx hy
          go_wp2
          refine wp_nopan ?_
          refine wp_region_held (S := fun w' => w'.cell? ⟨g, j, none⟩ = some (.int .u64 x) ∧ w'.cell? ⟨g, jm, none⟩ = some (.int .u64 y)) (by kernel_rfl) ?_
          have hS : ({ wr with drawn := wr.drawn + 1 } : World).cell? ⟨g, j, none⟩ = some (.int .u64 x) ∧ ({ wr with drawn := wr.drawn + 1 } : World).cell? ⟨g, jm, none⟩ = some (.int .u64 y) := ⟨gj.out, gm.out⟩
          refine takeL (i := 0) (v := (.int .i64 (j : Int))) rfl (by kernel_rfl) (by kernel_rfl) (by kernel_rfl) (fun _ _ _ h => h) rfl (by assumption) (fun w' hS' => by go_simp) ?_
          simp only [Act.put, List.setIfInBounds_toArray, List.set_cons_zero, List.set_cons_succ]
          refine takeL (i := 1) (v := (.int .i64 (a : Int))) rfl (by kernel_rfl) (by kernel_rfl) (by kernel_rfl) (fun _ _ _ h => h) rfl (by assumption) (fun w' hS' => by go_simp) ?_
          simp only [Act.put, List.setIfInBounds_toArray, List.set_cons_zero, List.set_cons_succ]
          refine takeL (i := 2) (v := (.bool true)) rfl (by kernel_rfl) (by kernel_rfl) (by kernel_rfl) (fun _ _ _ h => h) rfl (by assumption) (fun w' hS' => by go_simp) ?_
          simp only [Act.put, List.setIfInBounds_toArray, List.set_cons_zero, List.set_cons_succ]
          refine takeL (i := 3) (v := (.bool true)) rfl (by kernel_rfl) (by kernel_rfl) (by kernel_rfl) (fun _ _ _ h => h) rfl (by assumption) (fun w' hS' => by go_simp) ?_
          simp only [Act.put, List.setIfInBounds_toArray, List.set_cons_zero, List.set_cons_succ]
          refine takeL (i := 4) (v := (.slice (some ⟨g, 0, none⟩) n cap)) rfl (by kernel_rfl) (by kernel_rfl) (by kernel_rfl) (fun _ _ _ h => h) rfl (by assumption) (fun w' hS' => by go_simp) ?_
          simp only [Act.put, List.setIfInBounds_toArray, List.set_cons_zero, List.set_cons_succ]
          refine takeL (i := 5) (v := (.int .i64 (j : Int))) rfl (by kernel_rfl) (by kernel_rfl) (by kernel_rfl) (fun _ _ _ h => h) rfl (by assumption) (fun w' hS' => by go_simp) ?_
          simp only [Act.put, List.setIfInBounds_toArray, List.set_cons_zero, List.set_cons_succ]
          refine takeL (i := 6) (v := (.pointer (some ⟨g, j, none⟩))) rfl (by kernel_rfl) (by kernel_rfl) (by kernel_rfl) (fun _ _ _ h => h) rfl (by assumption) (fun w' hS' => run_index_slice _ 37 22 (.tmp 20) (.tmp 21) rfl Tryd.underlying37 1 sz_u64 g 0 n cap rfl .i64 j rfl hjn j (by omega)) ?_
          simp only [Act.put, List.setIfInBounds_toArray, List.set_cons_zero, List.set_cons_succ]
          refine takeL (i := 7) (v := (.int .u64 x)) rfl (by kernel_rfl) (by kernel_rfl) (by kernel_rfl) (fun _ _ _ h => h) rfl (by assumption) (fun w' hS' => run_load_cell _ 22 (.tmp 22) rfl ⟨g, j, none⟩ rfl _ hS'.1 _ Tryd.underlying22 rfl) ?_
          simp only [Act.put, List.setIfInBounds_toArray, List.set_cons_zero, List.set_cons_succ]
          refine takeL (i := 8) (v := (.slice (some ⟨g, 0, none⟩) n cap)) rfl (by kernel_rfl) (by kernel_rfl) (by kernel_rfl) (fun _ _ _ h => h) rfl (by assumption) (fun w' hS' => by go_simp) ?_
          simp only [Act.put, List.setIfInBounds_toArray, List.set_cons_zero, List.set_cons_succ]
          refine takeL (i := 9) (v := (.int .i64 (j : Int))) rfl (by kernel_rfl) (by kernel_rfl) (by kernel_rfl) (fun _ _ _ h => h) rfl (by assumption) (fun w' hS' => by go_simp) ?_
          simp only [Act.put, List.setIfInBounds_toArray, List.set_cons_zero, List.set_cons_succ]
          refine takeL (i := 10) (v := (.int .i64 (jm : Int))) rfl (by kernel_rfl) (by kernel_rfl) (by kernel_rfl) (fun _ _ _ h => h) rfl (by assumption) (fun w' hS' => by go_simp) ?_
          simp only [Act.put, List.setIfInBounds_toArray, List.set_cons_zero, List.set_cons_succ]
          refine takeL (i := 11) (v := (.pointer (some ⟨g, jm, none⟩))) rfl (by kernel_rfl) (by kernel_rfl) (by kernel_rfl) (fun _ _ _ h => h) rfl (by assumption) (fun w' hS' => run_index_slice _ 37 22 (.tmp 24) (.tmp 26) rfl Tryd.underlying37 1 sz_u64 g 0 n cap rfl .i64 jm rfl hjmn jm (by omega)) ?_
          simp only [Act.put, List.setIfInBounds_toArray, List.set_cons_zero, List.set_cons_succ]
          refine takeL (i := 12) (v := (.int .u64 y)) rfl (by kernel_rfl) (by kernel_rfl) (by kernel_rfl) (fun _ _ _ h => h) rfl (by assumption) (fun w' hS' => run_load_cell _ 22 (.tmp 27) rfl ⟨g, jm, none⟩ rfl _ hS'.2 _ Tryd.underlying22 rfl) ?_
          simp only [Act.put, List.setIfInBounds_toArray, List.set_cons_zero, List.set_cons_succ]
          refine oneL (i := 13) rfl (by kernel_rfl) rfl (wp_call 53 #[.int .u64 x, .int .u64 y] (by go_simp) _ _ (less_any x y _) ?_)
          rintro W2 rfl
          refine ⟨hS, ?_⟩
          simp only [Act.put, List.setIfInBounds_toArray, List.set_cons_zero, List.set_cons_succ]
          refine takeL (i := 14) (v := (.bool (decide (x < y)))) rfl (by kernel_rfl) (by kernel_rfl) (by kernel_rfl) (fun _ _ _ h => h) rfl (by assumption) (fun w' hS' => by go_simp) ?_
          simp only [Act.put, List.setIfInBounds_toArray, List.set_cons_zero, List.set_cons_succ]
          refine wpAnyH_done (by kernel_rfl) ?_ _
          simp only [NoPan]
          clear hS
          refine gen_q (fun W2 => OwU base (.slice (some ⟨g, 0, none⟩) n cap) M W2 ∧ Apart g w W2 ∧ W2.cell? ⟨g, j, none⟩ = some (.int .u64 x) ∧ W2.cell? ⟨g, jm, none⟩ = some (.int .u64 y)) ⟨hO2.out.later ((Below.refl _ _).drew), hA2.out.trans (Apart.begin g wr), gj.out, gm.out⟩ ?_
          rintro W2 ⟨o2, a2, c2, c3⟩
          have hO3 := Lib.hid o2
          have hA3 := Lib.hid a2
          have hc2 := Lib.hid c2
          have hc3 := Lib.hid c3
          clear o2 a2 c2 c3
          by_cases hxy : x < y
          · have dxy : decide (x < y) = true := by simpa using hxy
            go_wp2
            refine wp_nopan ?_
            refine wp_region_held (S := fun _ => True) (by kernel_rfl) ?_
            have hS : True := trivial
            have O4 := hO3.out.later (w' := { W2 with drawn := W2.drawn + 1 }) ((Below.refl _ _).drew)
            refine takeL (i := 0) (v := (.slice (some ⟨g, 0, none⟩) n cap)) rfl (by kernel_rfl) (by kernel_rfl) (by kernel_rfl) (fun _ _ _ h => h) rfl (by assumption) (fun w' hS' => by go_simp) ?_
            simp only [Act.put, List.setIfInBounds_toArray, List.set_cons_zero, List.set_cons_succ]
            refine takeL (i := 1) (v := (.int .i64 (j : Int))) rfl (by kernel_rfl) (by kernel_rfl) (by kernel_rfl) (fun _ _ _ h => h) rfl (by assumption) (fun w' hS' => by go_simp) ?_
            simp only [Act.put, List.setIfInBounds_toArray, List.set_cons_zero, List.set_cons_succ]
            refine takeL (i := 2) (v := (.slice (some ⟨g, 0, none⟩) n cap)) rfl (by kernel_rfl) (by kernel_rfl) (by kernel_rfl) (fun _ _ _ h => h) rfl (by assumption) (fun w' hS' => by go_simp) ?_
            simp only [Act.put, List.setIfInBounds_toArray, List.set_cons_zero, List.set_cons_succ]
            refine takeL (i := 3) (v := (.int .i64 (j : Int))) rfl (by kernel_rfl) (by kernel_rfl) (by kernel_rfl) (fun _ _ _ h => h) rfl (by assumption) (fun w' hS' => by go_simp) ?_
            simp only [Act.put, List.setIfInBounds_toArray, List.set_cons_zero, List.set_cons_succ]
            refine takeL (i := 4) (v := (.int .i64 (jm : Int))) rfl (by kernel_rfl) (by kernel_rfl) (by kernel_rfl) (fun _ _ _ h => h) rfl (by assumption) (fun w' hS' => by go_simp) ?_
            simp only [Act.put, List.setIfInBounds_toArray, List.set_cons_zero, List.set_cons_succ]
            refine takeL (i := 5) (v := (.slice (some ⟨g, 0, none⟩) n cap)) rfl (by kernel_rfl) (by kernel_rfl) (by kernel_rfl) (fun _ _ _ h => h) rfl (by assumption) (fun w' hS' => by go_simp) ?_
            simp only [Act.put, List.setIfInBounds_toArray, List.set_cons_zero, List.set_cons_succ]
            refine takeL (i := 6) (v := (.int .i64 (j : Int))) rfl (by kernel_rfl) (by kernel_rfl) (by kernel_rfl) (fun _ _ _ h => h) rfl (by assumption) (fun w' hS' => by go_simp) ?_
            simp only [Act.put, List.setIfInBounds_toArray, List.set_cons_zero, List.set_cons_succ]
            refine takeL (i := 7) (v := (.int .i64 (jm : Int))) rfl (by kernel_rfl) (by kernel_rfl) (by kernel_rfl) (fun _ _ _ h => h) rfl (by assumption) (fun w' hS' => by go_simp) ?_
            simp only [Act.put, List.setIfInBounds_toArray, List.set_cons_zero, List.set_cons_succ]
            refine takeL (i := 8) (v := (.pointer (some ⟨g, jm, none⟩))) rfl (by kernel_rfl) (by kernel_rfl) (by kernel_rfl) (fun _ _ _ h => h) rfl (by assumption) (fun w' hS' => run_index_slice _ 37 22 (.tmp 38) (.tmp 40) rfl Tryd.underlying37 1 sz_u64 g 0 n cap rfl .i64 jm rfl hjmn jm (by omega)) ?_
            simp only [Act.put, List.setIfInBounds_toArray, List.set_cons_zero, List.set_cons_succ]
            refine takeL (i := 10) (v := (.slice (some ⟨g, 0, none⟩) n cap)) rfl (by kernel_rfl) (by kernel_rfl) (by kernel_rfl) (fun _ _ _ h => h) rfl (by assumption) (fun w' hS' => by go_simp) ?_
            simp only [Act.put, List.setIfInBounds_toArray, List.set_cons_zero, List.set_cons_succ]
            refine takeL (i := 11) (v := (.int .i64 (j : Int))) rfl (by kernel_rfl) (by kernel_rfl) (by kernel_rfl) (fun _ _ _ h => h) rfl (by assumption) (fun w' hS' => by go_simp) ?_
            simp only [Act.put, List.setIfInBounds_toArray, List.set_cons_zero, List.set_cons_succ]
            refine takeL (i := 12) (v := (.pointer (some ⟨g, j, none⟩))) rfl (by kernel_rfl) (by kernel_rfl) (by kernel_rfl) (fun _ _ _ h => h) rfl (by assumption) (fun w' hS' => run_index_slice _ 37 22 (.tmp 43) (.tmp 44) rfl Tryd.underlying37 1 sz_u64 g 0 n cap rfl .i64 j rfl hjn j (by omega)) ?_
            simp only [Act.put, List.setIfInBounds_toArray, List.set_cons_zero, List.set_cons_succ]
            refine pairL (i := 9) (k := 13) (.int .u64 y) (.int .u64 x) (Wn := { W2 with drawn := W2.drawn + 1 }) rfl rfl (by kernel_rfl) (by kernel_rfl) (by kernel_rfl) rfl rfl rfl rfl (run_load_cell _ 22 (.tmp 41) rfl ⟨g, jm, none⟩ rfl _ hc3.out _ Tryd.underlying22 rfl) (run_load_cell _ 22 (.tmp 41) rfl ⟨g, jm, none⟩ rfl _ hc3.out _ Tryd.underlying22 rfl) (run_load_cell _ 22 (.tmp 45) rfl ⟨g, j, none⟩ rfl _ hc2.out _ Tryd.underlying22 rfl) (run_load_cell _ 22 (.tmp 45) rfl ⟨g, j, none⟩ rfl _ hc2.out _ Tryd.underlying22 rfl) trivial trivial (by kernel_rfl) (by rfl) ?_
            simp only [Act.put, List.setIfInBounds_toArray, List.set_cons_zero, List.set_cons_succ]
            refine takeL (i := 14) (v := (.pointer (some ⟨g, j, none⟩))) rfl (by kernel_rfl) (by kernel_rfl) (by kernel_rfl) (fun _ _ _ h => h) rfl (by assumption) (fun w' hS' => run_index_slice _ 37 22 (.tmp 33) (.tmp 34) rfl Tryd.underlying37 1 sz_u64 g 0 n cap rfl .i64 j rfl hjn j (by omega)) ?_
            simp only [Act.put, List.setIfInBounds_toArray, List.set_cons_zero, List.set_cons_succ]
            refine oneL (i := 15) rfl (by kernel_rfl) rfl (wp_storeU (.tmp 47) (.tmp 42) rfl base g n cap j M O4 rfl y rfl (by rw [hML.out]; exact hjn) ?_)
            intro W3 hO5 hA5
            refine ⟨trivial, ?_⟩
            simp only [Act.put, List.setIfInBounds_toArray, List.set_cons_zero, List.set_cons_succ]
            refine takeL (i := 16) (v := (.pointer (some ⟨g, jm, none⟩))) rfl (by kernel_rfl) (by kernel_rfl) (by kernel_rfl) (fun _ _ _ h => h) rfl (by assumption) (fun w' hS' => run_index_slice _ 37 22 (.tmp 35) (.tmp 37) rfl Tryd.underlying37 1 sz_u64 g 0 n cap rfl .i64 jm rfl hjmn jm (by omega)) ?_
            simp only [Act.put, List.setIfInBounds_toArray, List.set_cons_zero, List.set_cons_succ]
            refine oneL (i := 17) rfl (by kernel_rfl) rfl (wp_storeU (.tmp 48) (.tmp 46) rfl base g n cap jm (M.set j y) hO5 rfl x rfl (by rw [List.length_set, hML.out]; exact hjmn) ?_)
            intro W4 hO6 hA6
            refine ⟨trivial, ?_⟩
            simp only [Act.put, List.setIfInBounds_toArray, List.set_cons_zero, List.set_cons_succ]
            refine wpAnyH_done (by kernel_rfl) ?_ _
            simp only [NoPan]
            rw [gx.out, gy.out, swp_two] at hO6
            have gO6 := Lib.hid hO6
            have gA6 := Lib.hid (((hA3.out.trans (Apart.begin g W2)).trans hA5).trans hA6)
            have gH6 := Lib.hid (hH2.out.step hj hji gjm.out (by rw [hML.out]; omega) (by rw [← gx.out, ← gy.out]; exact hxy))
            have gS6 := Lib.hid (hS2.out.swp (i := j) (j := jm) (by omega) (by have := gjm.out; omega) (by rw [hl.out]; exact hb))
            clear hO6 hA6 hO5 hA5 O4 hS
            go_wp2
            exact ⟨⟨jm, _, by have := gjm.out; omega, by have := gjm.out; omega, by go_num, gO6.out, gS6.out, gH6.out, gA6.out⟩, by have := gjm.out; simp [intOf]; omega⟩
          · have dxy : decide (x < y) = false := by simpa using hxy
            have gso2 := Lib.hid (hH2.out.sorted hj hji gjm.out (by rw [← gx.out, ← gy.out]; omega))
            go_wp2
            exact ⟨⟨i + 1, M, by omega, by omega, by go_num, hO3.out, hS2.out, gso2.out, hA3.out⟩, by simp [intOf]; omega⟩
        · have e : j = a := by omega
          subst e
          have lj : decide ((j : Int) < (j : Int)) = false := by simp
          have gso2 := Lib.hid hH2.out.sorted0
          go_wp2
          refine wp_nopan ?_
          refine wp_region_held (S := fun _ => True) (by kernel_rfl) ?_
          have hS : True := trivial
          refine takeL (i := 0) (v := (.int .i64 (j : Int))) rfl (by kernel_rfl) (by kernel_rfl) (by kernel_rfl) (fun _ _ _ h => h) rfl (by assumption) (fun w' hS' => by go_simp) ?_
          simp only [Act.put, List.setIfInBounds_toArray, List.set_cons_zero, List.set_cons_succ]
          refine takeL (i := 1) (v := (.int .i64 (j : Int))) rfl (by kernel_rfl) (by kernel_rfl) (by kernel_rfl) (fun _ _ _ h => h) rfl (by assumption) (fun w' hS' => by go_simp) ?_
          simp only [Act.put, List.setIfInBounds_toArray, List.set_cons_zero, List.set_cons_succ]
          refine takeL (i := 2) (v := (.bool false)) rfl (by kernel_rfl) (by kernel_rfl) (by kernel_rfl) (fun _ _ _ h => h) rfl (by assumption) (fun w' hS' => by go_simp) ?_
          simp only [Act.put, List.setIfInBounds_toArray, List.set_cons_zero, List.set_cons_succ]
          refine takeL (i := 3) (v := (.bool false)) rfl (by kernel_rfl) (by kernel_rfl) (by kernel_rfl) (fun _ _ _ h => h) rfl (by assumption) (fun w' hS' => by go_simp) ?_
          simp only [Act.put, List.setIfInBounds_toArray, List.set_cons_zero, List.set_cons_succ]
          refine skipL (i := 4) rfl (by kernel_rfl) (by kernel_rfl) (by kernel_rfl) (fun _ _ _ h => h) rfl (by assumption) ?_
          simp only [Act.put, List.setIfInBounds_toArray, List.set_cons_zero, List.set_cons_succ]
          refine skipL (i := 5) rfl (by kernel_rfl) (by kernel_rfl) (by kernel_rfl) (fun _ _ _ h => h) rfl (by assumption) ?_
          simp only [Act.put, List.setIfInBounds_toArray, List.set_cons_zero, List.set_cons_succ]
          refine skipL (i := 6) rfl (by kernel_rfl) (by kernel_rfl) (by kernel_rfl) (fun _ _ _ h => h) rfl (by assumption) ?_
          simp only [Act.put, List.setIfInBounds_toArray, List.set_cons_zero, List.set_cons_succ]
          refine skipL (i := 7) rfl (by kernel_rfl) (by kernel_rfl) (by kernel_rfl) (fun _ _ _ h => h) rfl (by assumption) ?_
          simp only [Act.put, List.setIfInBounds_toArray, List.set_cons_zero, List.set_cons_succ]
          refine skipL (i := 8) rfl (by kernel_rfl) (by kernel_rfl) (by kernel_rfl) (fun _ _ _ h => h) rfl (by assumption) ?_
          simp only [Act.put, List.setIfInBounds_toArray, List.set_cons_zero, List.set_cons_succ]
          refine skipL (i := 9) rfl (by kernel_rfl) (by kernel_rfl) (by kernel_rfl) (fun _ _ _ h => h) rfl (by assumption) ?_
          simp only [Act.put, List.setIfInBounds_toArray, List.set_cons_zero, List.set_cons_succ]
          refine skipL (i := 10) rfl (by kernel_rfl) (by kernel_rfl) (by kernel_rfl) (fun _ _ _ h => h) rfl (by assumption) ?_
          simp only [Act.put, List.setIfInBounds_toArray, List.set_cons_zero, List.set_cons_succ]
          refine skipL (i := 11) rfl (by kernel_rfl) (by kernel_rfl) (by kernel_rfl) (fun _ _ _ h => h) rfl (by assumption) ?_
          simp only [Act.put, List.setIfInBounds_toArray, List.set_cons_zero, List.set_cons_succ]
          refine skipL (i := 12) rfl (by kernel_rfl) (by kernel_rfl) (by kernel_rfl) (fun _ _ _ h => h) rfl (by assumption) ?_
          simp only [Act.put, List.setIfInBounds_toArray, List.set_cons_zero, List.set_cons_succ]
          refine skipL (i := 13) rfl (by kernel_rfl) (by kernel_rfl) (by kernel_rfl) (fun _ _ _ h => h) rfl (by assumption) ?_
          simp only [Act.put, List.setIfInBounds_toArray, List.set_cons_zero, List.set_cons_succ]
          refine takeL (i := 14) (v := (.bool false)) rfl (by kernel_rfl) (by kernel_rfl) (by kernel_rfl) (fun _ _ _ h => h) rfl (by assumption) (fun w' hS' => by go_simp) ?_
          simp only [Act.put, List.setIfInBounds_toArray, List.set_cons_zero, List.set_cons_succ]
          refine wpAnyH_done (by kernel_rfl) ?_ _
          simp only [NoPan]
          refine gen_q (fun W2 => OwU base (.slice (some ⟨g, 0, none⟩) n cap) M W2 ∧ Apart g w W2) ⟨hO2.out.later ((Below.refl _ _).drew), hA2.out.trans (Apart.begin g wr)⟩ ?_
          rintro W2 ⟨o2, a2⟩
          have hO3 := Lib.hid o2
          have hA3 := Lib.hid a2
          clear o2 a2 hS
          go_wp2
          exact ⟨⟨i + 1, M, by omega, by omega, by go_num, hO3.out, hS2.out, gso2.out, hA3.out⟩, by simp [intOf]; omega⟩
    · have lk : decide ((i : Int) < (b : Int)) = false := by simp; omega
      go_wp2
      exact ret_none rfl rfl ⟨rfl, L, gO.out, gS.out, fun p q h1 h2 h3 => gso.out p q h1 h2 (by omega), gA.out⟩
end Go.Proofs.YtfnjcpopadpmbaaDoor
namespace Go.Proofs.YtfnjcpopadpmbaaDoor
open Go.RowKit BigFrame
set_option maxRecDepth 100000
set_option maxHeartbeats 16000000 in
theorem rev_any (base g n cap a b : Nat) (l : List Int) (w : World) (hO0 : OwU base (.slice (some ⟨g, 0, none⟩) n cap) l w) (hl0 : l.length = n) (hab : a < b) (hb : b ≤ n) (hn : n ≤ 1000000) :
    Calls Tryd.prog 51 #[.slice (some ⟨g, 0, none⟩) n cap, .int .i64 (a : Int), .int .i64 (b : Int)] w fun e w' => e = .returned (.tuple #[]) ∧ ∃ l', OwU base (.slice (some ⟨g, 0, none⟩) n cap) l' w' ∧ SegP a b l l' ∧ Apart g w w' := by
  have hO := Lib.hid hO0
  have hl := Lib.hid hl0
  clear hO0 hl0
  obtain ⟨b1, hb1⟩ : ∃ b1, b1 + 1 = b := ⟨b - 1, by omega⟩
  have wb : IntKind.i64.wrap ((b : Int) - 1) = (b1 : Int) := by rw [IntKind.wrap_i64]; omega
  have gb1 := Lib.hid hb1
  clear hb1
  go_enter Tryd.func51, Tryd.ntmps51
  go_wp2
  go_loopw [6, 7] (fun vi vj wr => ∃ (i : Nat) (j : Int) (L : List Int), a ≤ i ∧ (i : Int) ≤ j + 2 ∧ j < (b : Int) ∧ i ≤ b ∧ vi = .int .i64 (i : Int) ∧ vj = .int .i64 j ∧ OwU base (.slice (some ⟨g, 0, none⟩) n cap) L wr ∧ SegP a b l L ∧ Apart g w wr) (fun vi _ _ => b - (intOf vi).toNat)
  case atStart => exact ⟨a, b1, l, Nat.le_refl _, by have := gb1.out; omega, by have := gb1.out; omega, by omega, rfl, rfl, hO.out, SegP.refl _ _ _, Apart.refl _ _⟩
  case round =>
    obtain ⟨i, jI, L, hai, hij, hjb, hib, rfl, rfl, hOL, hSL, hA⟩ := hrel
    have gO := Lib.hid hOL
    have gS := Lib.hid hSL
    have gA := Lib.hid hA
    have gL := Lib.hid (hSL.len.trans hl.out)
    clear hOL hSL hA
    by_cases hlt : (i : Int) < jI
    · obtain ⟨j, rfl⟩ := Int.eq_ofNat_of_zero_le (show 0 ≤ jI by omega)
      have lk : decide ((i : Int) < (j : Int)) = true := by simpa using hlt
      have wi : IntKind.i64.wrap ((i : Int) + 1) = ((i + 1 : Nat) : Int) := by rw [IntKind.wrap_i64]; omega
      have wj : IntKind.i64.wrap ((j : Int) - 1) = (j : Int) - 1 := by rw [IntKind.wrap_i64]; omega
      have hin : i < n := by omega
      have hjn : j < n := by omega
      go_wp2
      refine wp_nopan ?_
      refine wp_region_held (S := fun _ => True) (by kernel_rfl) ?_
      have hS : True := trivial
      have O4 := gO.out.later (w' := { wr with drawn := wr.drawn + 1 }) ((Below.refl _ _).drew)
      have cj := O4.cell j (by rw [gL.out]; exact hjn)
      have ci := O4.cell i (by rw [gL.out]; exact hin)
      refine takeL (i := 0) (v := (.slice (some ⟨g, 0, none⟩) n cap)) rfl (by kernel_rfl) (by kernel_rfl) (by kernel_rfl) (fun _ _ _ h => h) rfl (by assumption) (fun w' hS' => by go_simp) ?_
      simp only [Act.put, List.setIfInBounds_toArray, List.set_cons_zero, List.set_cons_succ]
      refine takeL (i := 1) (v := (.int .i64 (i : Int))) rfl (by kernel_rfl) (by kernel_rfl) (by kernel_rfl) (fun _ _ _ h => h) rfl (by assumption) (fun w' hS' => by go_simp) ?_
      simp only [Act.put, List.setIfInBounds_toArray, List.set_cons_zero, List.set_cons_succ]
      refine takeL (i := 2) (v := (.slice (some ⟨g, 0, none⟩) n cap)) rfl (by kernel_rfl) (by kernel_rfl) (by kernel_rfl) (fun _ _ _ h => h) rfl (by assumption) (fun w' hS' => by go_simp) ?_
      simp only [Act.put, List.setIfInBounds_toArray, List.set_cons_zero, List.set_cons_succ]
      refine takeL (i := 3) (v := (.int .i64 (j : Int))) rfl (by kernel_rfl) (by kernel_rfl) (by kernel_rfl) (fun _ _ _ h => h) rfl (by assumption) (fun w' hS' => by go_simp) ?_
      simp only [Act.put, List.setIfInBounds_toArray, List.set_cons_zero, List.set_cons_succ]
      refine takeL (i := 4) (v := (.slice (some ⟨g, 0, none⟩) n cap)) rfl (by kernel_rfl) (by kernel_rfl) (by kernel_rfl) (fun _ _ _ h => h) rfl (by assumption) (fun w' hS' => by go_simp) ?_
      simp only [Act.put, List.setIfInBounds_toArray, List.set_cons_zero, List.set_cons_succ]
      refine takeL (i := 5) (v := (.int .i64 (j : Int))) rfl (by kernel_rfl) (by kernel_rfl) (by kernel_rfl) (fun _ _ _ h => h) rfl (by assumption) (fun w' hS' => by go_simp) ?_
      simp only [Act.put, List.setIfInBounds_toArray, List.set_cons_zero, List.set_cons_succ]
      refine takeL (i := 6) (v := (.pointer (some ⟨g, j, none⟩))) rfl (by kernel_rfl) (by kernel_rfl) (by kernel_rfl) (fun _ _ _ h => h) rfl (by assumption) (fun w' hS' => run_index_slice _ 37 22 (.tmp 18) (.tmp 19) rfl Tryd.underlying37 1 sz_u64 g 0 n cap rfl .i64 j rfl hjn j (by omega)) ?_
      simp only [Act.put, List.setIfInBounds_toArray, List.set_cons_zero, List.set_cons_succ]
      refine takeL (i := 8) (v := (.slice (some ⟨g, 0, none⟩) n cap)) rfl (by kernel_rfl) (by kernel_rfl) (by kernel_rfl) (fun _ _ _ h => h) rfl (by assumption) (fun w' hS' => by go_simp) ?_
      simp only [Act.put, List.setIfInBounds_toArray, List.set_cons_zero, List.set_cons_succ]
      refine takeL (i := 9) (v := (.int .i64 (i : Int))) rfl (by kernel_rfl) (by kernel_rfl) (by kernel_rfl) (fun _ _ _ h => h) rfl (by assumption) (fun w' hS' => by go_simp) ?_
      simp only [Act.put, List.setIfInBounds_toArray, List.set_cons_zero, List.set_cons_succ]
      refine takeL (i := 10) (v := (.pointer (some ⟨g, i, none⟩))) rfl (by kernel_rfl) (by kernel_rfl) (by kernel_rfl) (fun _ _ _ h => h) rfl (by assumption) (fun w' hS' => run_index_slice _ 37 22 (.tmp 22) (.tmp 23) rfl Tryd.underlying37 1 sz_u64 g 0 n cap rfl .i64 i rfl hin i (by omega)) ?_
      simp only [Act.put, List.setIfInBounds_toArray, List.set_cons_zero, List.set_cons_succ]
      refine pairL (i := 7) (k := 11) (.int .u64 (L.getD j 0)) (.int .u64 (L.getD i 0)) (Wn := { wr with drawn := wr.drawn + 1 }) rfl rfl (by kernel_rfl) (by kernel_rfl) (by kernel_rfl) rfl rfl rfl rfl (run_load_cell _ 22 (.tmp 20) rfl ⟨g, j, none⟩ rfl _ cj _ Tryd.underlying22 rfl) (run_load_cell _ 22 (.tmp 20) rfl ⟨g, j, none⟩ rfl _ cj _ Tryd.underlying22 rfl) (run_load_cell _ 22 (.tmp 24) rfl ⟨g, i, none⟩ rfl _ ci _ Tryd.underlying22 rfl) (run_load_cell _ 22 (.tmp 24) rfl ⟨g, i, none⟩ rfl _ ci _ Tryd.underlying22 rfl) trivial trivial (by kernel_rfl) (by rfl) ?_
      simp only [Act.put, List.setIfInBounds_toArray, List.set_cons_zero, List.set_cons_succ]
      refine takeL (i := 12) (v := (.pointer (some ⟨g, i, none⟩))) rfl (by kernel_rfl) (by kernel_rfl) (by kernel_rfl) (fun _ _ _ h => h) rfl (by assumption) (fun w' hS' => run_index_slice _ 37 22 (.tmp 14) (.tmp 15) rfl Tryd.underlying37 1 sz_u64 g 0 n cap rfl .i64 i rfl hin i (by omega)) ?_
      simp only [Act.put, List.setIfInBounds_toArray, List.set_cons_zero, List.set_cons_succ]
      refine oneL (i := 13) rfl (by kernel_rfl) rfl (wp_storeU (.tmp 26) (.tmp 21) rfl base g n cap i L O4 rfl (L.getD j 0) rfl (by rw [gL.out]; exact hin) ?_)
      intro W3 hO5 hA5
      refine ⟨trivial, ?_⟩
      simp only [Act.put, List.setIfInBounds_toArray, List.set_cons_zero, List.set_cons_succ]
      refine takeL (i := 14) (v := (.pointer (some ⟨g, j, none⟩))) rfl (by kernel_rfl) (by kernel_rfl) (by kernel_rfl) (fun _ _ _ h => h) rfl (by assumption) (fun w' hS' => run_index_slice _ 37 22 (.tmp 16) (.tmp 17) rfl Tryd.underlying37 1 sz_u64 g 0 n cap rfl .i64 j rfl hjn j (by omega)) ?_
      simp only [Act.put, List.setIfInBounds_toArray, List.set_cons_zero, List.set_cons_succ]
      refine oneL (i := 15) rfl (by kernel_rfl) rfl (wp_storeU (.tmp 27) (.tmp 25) rfl base g n cap j (L.set i (L.getD j 0)) hO5 rfl (L.getD i 0) rfl (by rw [List.length_set, gL.out]; exact hjn) ?_)
      intro W4 hO6 hA6
      refine ⟨trivial, ?_⟩
      simp only [Act.put, List.setIfInBounds_toArray, List.set_cons_zero, List.set_cons_succ]
      refine wpAnyH_done (by kernel_rfl) ?_ _
      simp only [NoPan]
      rw [swp_two] at hO6
      have gO6 := Lib.hid hO6
      have gA6 := Lib.hid (((gA.out.trans (Apart.begin g wr)).trans hA5).trans hA6)
      have gS6 := Lib.hid (gS.out.swp (i := i) (j := j) (by omega) (by omega) (by rw [hl.out]; exact hb))
      clear hO6 hA6 hO5 hA5 O4 hS ci cj
      go_wp2
      exact ⟨⟨i + 1, (j : Int) - 1, _, by omega, by omega, by omega, by omega, by go_num, rfl, gO6.out, gS6.out, gA6.out⟩, by simp [intOf]; omega⟩
    · have lk : decide ((i : Int) < jI) = false := by simpa using hlt
      go_wp2
      exact ret_none rfl rfl ⟨rfl, L, gO.out, gS.out, gA.out⟩
end Go.Proofs.YtfnjcpopadpmbaaDoor
