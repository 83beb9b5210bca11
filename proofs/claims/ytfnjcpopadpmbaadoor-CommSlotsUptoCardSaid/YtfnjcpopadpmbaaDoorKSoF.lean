/- The library's sort at uint64: partitionOrdered. -/
import Derived.Test.YtfnjcpopadpmbaaDoorJSoI
set_option linter.unusedVariables false
set_option linter.unusedSimpArgs false
set_option linter.unnecessarySimpa false
namespace Go.Proofs.YtfnjcpopadpmbaaDoor
open Go.RowKit BigFrame
set_option maxRecDepth 100000
/-- What lies below the pivot, which stands at a, and what does not. -/
structure PartI (a b i j : Nat) (L : List Int) : Prop where
  lo : ∀ z, a < z → z < i → L.getD z 0 < L.getD a 0
  hi : ∀ z, j < z → z < b → L.getD a 0 ≤ L.getD z 0
theorem PartI.swp {a b i j j1 : Nat} {L : List Int} (h : PartI a b i j L) (hai : a < i) (hij : i < j) (hj1 : j1 + 1 = j) (hjl : j < L.length) (h1 : L.getD j 0 < L.getD a 0) (h2 : L.getD a 0 ≤ L.getD i 0) : PartI a b (i + 1) j1 (swp L i j) := by
  have ea : (Go.Proofs.YtfnjcpopadpmbaaDoor.swp L i j).getD a 0 = L.getD a 0 := by rw [swp_get _ _ _ _ (by omega) hjl, if_neg (by omega), if_neg (by omega)]
  refine ⟨fun z z1 z2 => ?_, fun z z1 z2 => ?_⟩
  · rw [ea, swp_get _ _ _ _ (by omega) hjl, if_neg (by omega)]
    by_cases e : z = i
    · rw [if_pos e]; exact h1
    · rw [if_neg e]; exact h.lo z z1 (by omega)
  · rw [ea, swp_get _ _ _ _ (by omega) hjl]
    by_cases e : z = j
    · rw [if_pos e]; exact h2
    · rw [if_neg e, if_neg (by omega)]; exact h.hi z (by omega) z2
theorem PartI.fin {a b j : Nat} {L : List Int} (h : PartI a b (j + 1) j L) (haj : a ≤ j) (hj : j < L.length) : (∀ z, a ≤ z → z < j → (Go.Proofs.YtfnjcpopadpmbaaDoor.swp L j a).getD z 0 < (Go.Proofs.YtfnjcpopadpmbaaDoor.swp L j a).getD j 0) ∧ (∀ z, j < z → z < b → (Go.Proofs.YtfnjcpopadpmbaaDoor.swp L j a).getD j 0 ≤ (Go.Proofs.YtfnjcpopadpmbaaDoor.swp L j a).getD z 0) := by
  have ej : (Go.Proofs.YtfnjcpopadpmbaaDoor.swp L j a).getD j 0 = L.getD a 0 := by
    rw [swp_get _ _ _ _ hj (by omega)]
    by_cases e : j = a
    · rw [if_pos e, e]
    · rw [if_neg e, if_pos rfl]
  refine ⟨fun z z1 z2 => ?_, fun z z1 z2 => ?_⟩
  · rw [ej, swp_get _ _ _ _ hj (by omega)]
    by_cases e : z = a
    · rw [if_pos e]; exact h.lo j (by omega) (by omega)
    · rw [if_neg e, if_neg (by omega)]; exact h.lo z (by omega) (by omega)
  · rw [ej, swp_get _ _ _ _ hj (by omega), if_neg (by omega), if_neg (by omega)]
    exact h.hi z z1 z2
set_option maxHeartbeats 32000000 in
theorem part_any (base g n cap a b pv : Nat) (l : List Int) (w : World) (hO0 : OwU base (.slice (some ⟨g, 0, none⟩) n cap) l w) (hl0 : l.length = n) (hab : a < b) (hb : b ≤ n) (hn : n ≤ 1000000) (hpa : a ≤ pv) (hpb : pv < b) :
    Calls Tryd.prog 55 #[.slice (some ⟨g, 0, none⟩) n cap, .int .i64 (a : Int), .int .i64 (b : Int), .int .i64 (pv : Int)] w fun e w' => ∃ (mid : Nat) (bo : Bool) (l' : List Int), e = .returned (.tuple #[.int .i64 (mid : Int), .bool bo]) ∧ OwU base (.slice (some ⟨g, 0, none⟩) n cap) l' w' ∧ SegP a b l l' ∧ a ≤ mid ∧ mid < b ∧ (∀ z, a ≤ z → z < mid → l'.getD z 0 < l'.getD mid 0) ∧ (∀ z, mid < z → z < b → l'.getD mid 0 ≤ l'.getD z 0) ∧ Apart g w w' := by
  have hO := Lib.hid hO0
  have hl := Lib.hid hl0
  clear hO0 hl0
  obtain ⟨b1, hb1⟩ : ∃ b1, b1 + 1 = b := ⟨b - 1, by omega⟩
  obtain ⟨a1, ha1⟩ : ∃ a1, a1 = a + 1 := ⟨_, rfl⟩
  have wb : IntKind.i64.wrap ((b : Int) - 1) = (b1 : Int) := by rw [IntKind.wrap_i64]; omega
  have wa : IntKind.i64.wrap ((a : Int) + 1) = (a1 : Int) := by rw [IntKind.wrap_i64]; omega
  have hpn : pv < n := by omega
  have han : a < n := by omega
  have gb1 := Lib.hid hb1
  have ga1 := Lib.hid ha1
  clear hb1 ha1
  go_enter Tryd.func55, Tryd.ntmps55
  go_wp2
  refine wp_nopan ?_
  refine wp_region_held (S := fun _ => True) (by kernel_rfl) ?_
  have hS : True := trivial
  have O4 := hO.out.later (w' := { w with drawn := w.drawn + 1 }) ((Below.refl _ _).drew)
  have cy := O4.cell pv (by rw [hl.out]; exact hpn)
  have cx := O4.cell a (by rw [hl.out]; exact han)
  refine takeL (i := 0) (v := (.slice (some ⟨g, 0, none⟩) n cap)) rfl (by kernel_rfl) (by kernel_rfl) (by kernel_rfl) (fun _ _ _ h => h) rfl (by assumption) (fun w' hS' => by go_simp) ?_
  simp only [Act.put, List.setIfInBounds_toArray, List.set_cons_zero, List.set_cons_succ]
  refine takeL (i := 1) (v := (.int .i64 (a : Int))) rfl (by kernel_rfl) (by kernel_rfl) (by kernel_rfl) (fun _ _ _ h => h) rfl (by assumption) (fun w' hS' => by go_simp) ?_
  simp only [Act.put, List.setIfInBounds_toArray, List.set_cons_zero, List.set_cons_succ]
  refine takeL (i := 2) (v := (.slice (some ⟨g, 0, none⟩) n cap)) rfl (by kernel_rfl) (by kernel_rfl) (by kernel_rfl) (fun _ _ _ h => h) rfl (by assumption) (fun w' hS' => by go_simp) ?_
  simp only [Act.put, List.setIfInBounds_toArray, List.set_cons_zero, List.set_cons_succ]
  refine takeL (i := 3) (v := (.int .i64 (pv : Int))) rfl (by kernel_rfl) (by kernel_rfl) (by kernel_rfl) (fun _ _ _ h => h) rfl (by assumption) (fun w' hS' => by go_simp) ?_
  simp only [Act.put, List.setIfInBounds_toArray, List.set_cons_zero, List.set_cons_succ]
  refine takeL (i := 4) (v := (.slice (some ⟨g, 0, none⟩) n cap)) rfl (by kernel_rfl) (by kernel_rfl) (by kernel_rfl) (fun _ _ _ h => h) rfl (by assumption) (fun w' hS' => by go_simp) ?_
  simp only [Act.put, List.setIfInBounds_toArray, List.set_cons_zero, List.set_cons_succ]
  refine takeL (i := 5) (v := (.int .i64 (pv : Int))) rfl (by kernel_rfl) (by kernel_rfl) (by kernel_rfl) (fun _ _ _ h => h) rfl (by assumption) (fun w' hS' => by go_simp) ?_
  simp only [Act.put, List.setIfInBounds_toArray, List.set_cons_zero, List.set_cons_succ]
  refine takeL (i := 6) (v := (.pointer (some ⟨g, pv, none⟩))) rfl (by kernel_rfl) (by kernel_rfl) (by kernel_rfl) (fun _ _ _ h => h) rfl (by assumption) (fun w' hS' => run_index_slice _ 37 22 (.tmp 16) (.tmp 17) rfl Tryd.underlying37 1 sz_u64 g 0 n cap rfl .i64 pv rfl hpn pv (by omega)) ?_
  simp only [Act.put, List.setIfInBounds_toArray, List.set_cons_zero, List.set_cons_succ]
  refine takeL (i := 8) (v := (.slice (some ⟨g, 0, none⟩) n cap)) rfl (by kernel_rfl) (by kernel_rfl) (by kernel_rfl) (fun _ _ _ h => h) rfl (by assumption) (fun w' hS' => by go_simp) ?_
  simp only [Act.put, List.setIfInBounds_toArray, List.set_cons_zero, List.set_cons_succ]
  refine takeL (i := 9) (v := (.int .i64 (a : Int))) rfl (by kernel_rfl) (by kernel_rfl) (by kernel_rfl) (fun _ _ _ h => h) rfl (by assumption) (fun w' hS' => by go_simp) ?_
  simp only [Act.put, List.setIfInBounds_toArray, List.set_cons_zero, List.set_cons_succ]
  refine takeL (i := 10) (v := (.pointer (some ⟨g, a, none⟩))) rfl (by kernel_rfl) (by kernel_rfl) (by kernel_rfl) (fun _ _ _ h => h) rfl (by assumption) (fun w' hS' => run_index_slice _ 37 22 (.tmp 20) (.tmp 21) rfl Tryd.underlying37 1 sz_u64 g 0 n cap rfl .i64 a rfl han a (by omega)) ?_
  simp only [Act.put, List.setIfInBounds_toArray, List.set_cons_zero, List.set_cons_succ]
  refine pairL (i := 7) (k := 11) (.int .u64 (l.getD pv 0)) (.int .u64 (l.getD a 0)) (Wn := { w with drawn := w.drawn + 1 }) rfl rfl (by kernel_rfl) (by kernel_rfl) (by kernel_rfl) rfl rfl rfl rfl (run_load_cell _ 22 (.tmp 18) rfl ⟨g, pv, none⟩ rfl _ cy _ Tryd.underlying22 rfl) (run_load_cell _ 22 (.tmp 18) rfl ⟨g, pv, none⟩ rfl _ cy _ Tryd.underlying22 rfl) (run_load_cell _ 22 (.tmp 22) rfl ⟨g, a, none⟩ rfl _ cx _ Tryd.underlying22 rfl) (run_load_cell _ 22 (.tmp 22) rfl ⟨g, a, none⟩ rfl _ cx _ Tryd.underlying22 rfl) trivial trivial (by kernel_rfl) (by rfl) ?_
  simp only [Act.put, List.setIfInBounds_toArray, List.set_cons_zero, List.set_cons_succ]
  refine takeL (i := 12) (v := (.pointer (some ⟨g, a, none⟩))) rfl (by kernel_rfl) (by kernel_rfl) (by kernel_rfl) (fun _ _ _ h => h) rfl (by assumption) (fun w' hS' => run_index_slice _ 37 22 (.tmp 12) (.tmp 13) rfl Tryd.underlying37 1 sz_u64 g 0 n cap rfl .i64 a rfl han a (by omega)) ?_
  simp only [Act.put, List.setIfInBounds_toArray, List.set_cons_zero, List.set_cons_succ]
  refine oneL (i := 13) rfl (by kernel_rfl) rfl (wp_storeU (.tmp 24) (.tmp 19) rfl base g n cap a l O4 rfl (l.getD pv 0) rfl (by rw [hl.out]; exact han) ?_)
  intro W3 hO5 hA5
  refine ⟨trivial, ?_⟩
  simp only [Act.put, List.setIfInBounds_toArray, List.set_cons_zero, List.set_cons_succ]
  refine takeL (i := 14) (v := (.pointer (some ⟨g, pv, none⟩))) rfl (by kernel_rfl) (by kernel_rfl) (by kernel_rfl) (fun _ _ _ h => h) rfl (by assumption) (fun w' hS' => run_index_slice _ 37 22 (.tmp 14) (.tmp 15) rfl Tryd.underlying37 1 sz_u64 g 0 n cap rfl .i64 pv rfl hpn pv (by omega)) ?_
  simp only [Act.put, List.setIfInBounds_toArray, List.set_cons_zero, List.set_cons_succ]
  refine oneL (i := 15) rfl (by kernel_rfl) rfl (wp_storeU (.tmp 25) (.tmp 23) rfl base g n cap pv (l.set a (l.getD pv 0)) hO5 rfl (l.getD a 0) rfl (by rw [List.length_set, hl.out]; exact hpn) ?_)
  intro W4 hO6 hA6
  refine ⟨trivial, ?_⟩
  simp only [Act.put, List.setIfInBounds_toArray, List.set_cons_zero, List.set_cons_succ]
  refine wpAnyH_done (by kernel_rfl) ?_ _
  simp only [NoPan]
  rw [swp_two] at hO6
  have hA7 := ((Apart.begin g w).trans hA5).trans hA6
  refine gen_q (fun W2 => OwU base (.slice (some ⟨g, 0, none⟩) n cap) (swp l a pv) W2 ∧ Apart g w W2) ⟨hO6, hA7⟩ ?_
  clear hA7 hO6 hA6 hO5 hA5 O4 hS cx cy
  rintro WS1 ⟨o2, a2⟩
  have gS1 := Lib.hid o2
  have gAS1 := Lib.hid a2
  clear o2 a2
  obtain ⟨L1, x1, x2, x3⟩ : ∃ L1, OwU base (.slice (some ⟨g, 0, none⟩) n cap) L1 WS1 ∧ SegP a b l L1 ∧ L1.length = n := ⟨_, gS1.out, (SegP.refl a b l).swp ⟨Nat.le_refl a, hab⟩ ⟨hpa, hpb⟩ (by rw [hl.out]; exact hb), by rw [swp_length, hl.out]⟩
  have gO1 := Lib.hid x1
  have gs1 := Lib.hid x2
  have gl1 := Lib.hid x3
  clear gS1 x1 x2 x3
  go_wp2
  have gb1' := gb1.out
  have ga1' := ga1.out
  refine scanP0 base g n cap a a1 b1 (L1.getD a 0) L1 WS1 hn gO1.out gl1.out rfl han (by omega) (by omega) _ _ _ _ _ _ _ _ _ _ _ _ _ _ _ _ _ _ _ _ _ _ _ _ _ _ _ _ _ _ _ _ _ _ _ _ _ _ _ _ _ _ _ _ _ _ _ _ _ _ _ _ _ _ _ _ _ _ _ _ _ _ _ _ _ _ _ _ _ _ _ _ _ _ _ _ _ _ _ _ _ _ _ _ _ _ _ _ _ _ _ _ _ _ _ _ _ _ _ _ _ _ _ _ _ _ _ _ _ _ _ _ _ _ _ _ _ _ _ _ _ _ _ _ _ _ _ _ _ _ _ _ _ _ _ _ _ _ _ _ _ _ _ _ _ _ _ _ _ _ _ _ _ _ _ _ _ _ _ _ _ _ _ _ ?_
  intro y30 y31 y32 y33 y34 y35 y36 y37 y38 y39 y40 y41 y42 y43 y44 y45 i Wy r1 r2 r3 r4 o1 a1'
  have q1 := Lib.hid r1
  have q2 := Lib.hid r2
  have q3 := Lib.hid r3
  have q4 := Lib.hid r4
  have gO2 := Lib.hid o1
  have gA2 := Lib.hid (gAS1.out.trans a1')
  clear r1 r2 r3 r4 o1 a1' gAS1 gO1
  go_wp2
  refine scanP2 base g n cap a i b1 (L1.getD a 0) L1 Wy hn gO2.out gl1.out rfl han (by omega) (by have := q2.out; omega) (by have := q1.out; omega) _ _ _ _ _ _ _ _ _ _ _ _ _ _ _ _ _ _ _ _ _ _ _ _ _ _ _ _ _ _ _ _ _ _ _ _ _ _ _ _ _ _ _ _ _ _ _ _ _ _ _ _ _ _ _ _ _ _ _ _ _ _ _ _ _ _ _ _ _ _ _ _ _ _ _ _ _ _ _ _ _ _ _ _ _ _ _ _ _ _ _ _ _ _ _ _ _ _ _ _ _ _ _ _ _ _ _ _ _ _ _ _ _ _ _ _ _ _ _ _ _ _ _ _ _ _ _ _ _ _ _ _ _ _ _ _ _ _ _ _ _ _ _ _ _ _ _ _ _ _ _ _ _ _ _ _ _ _ _ _ _ _ _ _ ?_
  intro z46 z47 z48 z49 z50 z51 z52 z53 z54 z55 z56 z57 z58 z59 z60 z61 z62 j Wz r1 r2 r3 r4 o1 a1'
  have p1 := Lib.hid r1
  have p2 := Lib.hid r2
  have p3 := Lib.hid r3
  have p4 := Lib.hid r4
  have gO3 := Lib.hid o1
  have gA3 := Lib.hid (gA2.out.trans a1')
  clear r1 r2 r3 r4 o1 a1' gA2 gO2
  have gP := Lib.hid (show PartI a b i j L1 from ⟨fun z z1 z2 => q3.out z (by omega) z2, fun z z1 z2 => p3.out z z1 (by omega)⟩)
  by_cases c1 : j < i
  · have lc : decide ((i : Int) > (j : Int)) = true := by simp; omega
    have haj : a ≤ j := by have := p2.out; have := q1.out; omega
    have hjn : j < n := by have := p1.out; omega
    go_wp2
    refine wp_nopan ?_
    refine wp_region_held (S := fun _ => True) (by kernel_rfl) ?_
    have hS : True := trivial
    have O4 := gO3.out.later (w' := { Wz with drawn := Wz.drawn + 1 }) ((Below.refl _ _).drew)
    have cy := O4.cell a (by rw [gl1.out]; exact han)
    have cx := O4.cell j (by rw [gl1.out]; exact hjn)
    refine takeL (i := 0) (v := (.slice (some ⟨g, 0, none⟩) n cap)) rfl (by kernel_rfl) (by kernel_rfl) (by kernel_rfl) (fun _ _ _ h => h) rfl (by assumption) (fun w' hS' => by go_simp) ?_
    simp only [Act.put, List.setIfInBounds_toArray, List.set_cons_zero, List.set_cons_succ]
    refine takeL (i := 1) (v := (.int .i64 (j : Int))) rfl (by kernel_rfl) (by kernel_rfl) (by kernel_rfl) (fun _ _ _ h => h) rfl (by assumption) (fun w' hS' => by go_simp) ?_
    simp only [Act.put, List.setIfInBounds_toArray, List.set_cons_zero, List.set_cons_succ]
    refine takeL (i := 2) (v := (.slice (some ⟨g, 0, none⟩) n cap)) rfl (by kernel_rfl) (by kernel_rfl) (by kernel_rfl) (fun _ _ _ h => h) rfl (by assumption) (fun w' hS' => by go_simp) ?_
    simp only [Act.put, List.setIfInBounds_toArray, List.set_cons_zero, List.set_cons_succ]
    refine takeL (i := 3) (v := (.int .i64 (a : Int))) rfl (by kernel_rfl) (by kernel_rfl) (by kernel_rfl) (fun _ _ _ h => h) rfl (by assumption) (fun w' hS' => by go_simp) ?_
    simp only [Act.put, List.setIfInBounds_toArray, List.set_cons_zero, List.set_cons_succ]
    refine takeL (i := 4) (v := (.slice (some ⟨g, 0, none⟩) n cap)) rfl (by kernel_rfl) (by kernel_rfl) (by kernel_rfl) (fun _ _ _ h => h) rfl (by assumption) (fun w' hS' => by go_simp) ?_
    simp only [Act.put, List.setIfInBounds_toArray, List.set_cons_zero, List.set_cons_succ]
    refine takeL (i := 5) (v := (.int .i64 (a : Int))) rfl (by kernel_rfl) (by kernel_rfl) (by kernel_rfl) (fun _ _ _ h => h) rfl (by assumption) (fun w' hS' => by go_simp) ?_
    simp only [Act.put, List.setIfInBounds_toArray, List.set_cons_zero, List.set_cons_succ]
    refine takeL (i := 6) (v := (.pointer (some ⟨g, a, none⟩))) rfl (by kernel_rfl) (by kernel_rfl) (by kernel_rfl) (fun _ _ _ h => h) rfl (by assumption) (fun w' hS' => run_index_slice _ 37 22 (.tmp 70) (.tmp 71) rfl Tryd.underlying37 1 sz_u64 g 0 n cap rfl .i64 a rfl han a (by omega)) ?_
    simp only [Act.put, List.setIfInBounds_toArray, List.set_cons_zero, List.set_cons_succ]
    refine takeL (i := 8) (v := (.slice (some ⟨g, 0, none⟩) n cap)) rfl (by kernel_rfl) (by kernel_rfl) (by kernel_rfl) (fun _ _ _ h => h) rfl (by assumption) (fun w' hS' => by go_simp) ?_
    simp only [Act.put, List.setIfInBounds_toArray, List.set_cons_zero, List.set_cons_succ]
    refine takeL (i := 9) (v := (.int .i64 (j : Int))) rfl (by kernel_rfl) (by kernel_rfl) (by kernel_rfl) (fun _ _ _ h => h) rfl (by assumption) (fun w' hS' => by go_simp) ?_
    simp only [Act.put, List.setIfInBounds_toArray, List.set_cons_zero, List.set_cons_succ]
    refine takeL (i := 10) (v := (.pointer (some ⟨g, j, none⟩))) rfl (by kernel_rfl) (by kernel_rfl) (by kernel_rfl) (fun _ _ _ h => h) rfl (by assumption) (fun w' hS' => run_index_slice _ 37 22 (.tmp 74) (.tmp 75) rfl Tryd.underlying37 1 sz_u64 g 0 n cap rfl .i64 j rfl hjn j (by omega)) ?_
    simp only [Act.put, List.setIfInBounds_toArray, List.set_cons_zero, List.set_cons_succ]
    refine pairL (i := 7) (k := 11) (.int .u64 (L1.getD a 0)) (.int .u64 (L1.getD j 0)) (Wn := { Wz with drawn := Wz.drawn + 1 }) rfl rfl (by kernel_rfl) (by kernel_rfl) (by kernel_rfl) rfl rfl rfl rfl (run_load_cell _ 22 (.tmp 72) rfl ⟨g, a, none⟩ rfl _ cy _ Tryd.underlying22 rfl) (run_load_cell _ 22 (.tmp 72) rfl ⟨g, a, none⟩ rfl _ cy _ Tryd.underlying22 rfl) (run_load_cell _ 22 (.tmp 76) rfl ⟨g, j, none⟩ rfl _ cx _ Tryd.underlying22 rfl) (run_load_cell _ 22 (.tmp 76) rfl ⟨g, j, none⟩ rfl _ cx _ Tryd.underlying22 rfl) trivial trivial (by kernel_rfl) (by rfl) ?_
    simp only [Act.put, List.setIfInBounds_toArray, List.set_cons_zero, List.set_cons_succ]
    refine takeL (i := 12) (v := (.pointer (some ⟨g, j, none⟩))) rfl (by kernel_rfl) (by kernel_rfl) (by kernel_rfl) (fun _ _ _ h => h) rfl (by assumption) (fun w' hS' => run_index_slice _ 37 22 (.tmp 66) (.tmp 67) rfl Tryd.underlying37 1 sz_u64 g 0 n cap rfl .i64 j rfl hjn j (by omega)) ?_
    simp only [Act.put, List.setIfInBounds_toArray, List.set_cons_zero, List.set_cons_succ]
    refine oneL (i := 13) rfl (by kernel_rfl) rfl (wp_storeU (.tmp 78) (.tmp 73) rfl base g n cap j L1 O4 rfl (L1.getD a 0) rfl (by rw [gl1.out]; exact hjn) ?_)
    intro W3 hO5 hA5
    refine ⟨trivial, ?_⟩
    simp only [Act.put, List.setIfInBounds_toArray, List.set_cons_zero, List.set_cons_succ]
    refine takeL (i := 14) (v := (.pointer (some ⟨g, a, none⟩))) rfl (by kernel_rfl) (by kernel_rfl) (by kernel_rfl) (fun _ _ _ h => h) rfl (by assumption) (fun w' hS' => run_index_slice _ 37 22 (.tmp 68) (.tmp 69) rfl Tryd.underlying37 1 sz_u64 g 0 n cap rfl .i64 a rfl han a (by omega)) ?_
    simp only [Act.put, List.setIfInBounds_toArray, List.set_cons_zero, List.set_cons_succ]
    refine oneL (i := 15) rfl (by kernel_rfl) rfl (wp_storeU (.tmp 79) (.tmp 77) rfl base g n cap a (L1.set j (L1.getD a 0)) hO5 rfl (L1.getD j 0) rfl (by rw [List.length_set, gl1.out]; exact han) ?_)
    intro W4 hO6 hA6
    refine ⟨trivial, ?_⟩
    simp only [Act.put, List.setIfInBounds_toArray, List.set_cons_zero, List.set_cons_succ]
    refine wpAnyH_done (by kernel_rfl) ?_ _
    simp only [NoPan]
    rw [swp_two] at hO6
    have hA7 := ((gA3.out.trans (Apart.begin g Wz)).trans hA5).trans hA6
    refine gen_q (fun W2 => OwU base (.slice (some ⟨g, 0, none⟩) n cap) (swp L1 j a) W2 ∧ Apart g w W2) ⟨hO6, hA7⟩ ?_
    clear hA7 hO6 hA6 hO5 hA5 O4 hS cx cy
    rintro WS2 ⟨o2, a2⟩
    have gS2 := Lib.hid o2
    have gAS2 := Lib.hid a2
    clear o2 a2
    have hji : i = j + 1 := by have := p2.out; omega
    subst hji
    have hf := gP.out.fin haj (by rw [gl1.out]; exact hjn)
    go_wp2
    exact ret_t2 rfl _ _ rfl rfl rfl ⟨j, true, _, rfl, gS2.out, gs1.out.swp ⟨haj, by have := p1.out; omega⟩ ⟨Nat.le_refl a, hab⟩ (by rw [hl.out]; exact hb), haj, by have := p1.out; omega, hf.1, hf.2, gAS2.out⟩
  · have lc : decide ((i : Int) > (j : Int)) = false := by simp; omega
    have q1' := q1.out
    have q2' := q2.out
    have p1' := p1.out
    have p2' := p2.out
    have hlt : i < j := by
      rcases Nat.lt_or_ge i j with h | h
      · exact h
      · have e : i = j := by omega
        have h1 := p4.out (by omega)
        have h2 := q4.out (by omega)
        rw [e] at h2
        omega
    obtain ⟨j1, hj1⟩ : ∃ j1, j1 + 1 = j := ⟨j - 1, by omega⟩
    obtain ⟨i1, hi1⟩ : ∃ i1, i1 = i + 1 := ⟨_, rfl⟩
    have wi : IntKind.i64.wrap ((i : Int) + 1) = (i1 : Int) := by rw [IntKind.wrap_i64]; omega
    have wj : IntKind.i64.wrap ((j : Int) - 1) = (j1 : Int) := by rw [IntKind.wrap_i64]; omega
    have hin : i < n := by omega
    have hjn : j < n := by omega
    have hP := gP.out.swp (j1 := j1) (by omega) hlt hj1 (by rw [gl1.out]; exact hjn) (p4.out (by omega)) (q4.out (by omega))
    rw [← hi1] at hP
    have hij1 : i1 ≤ j1 + 1 := by omega
    have hjb : j1 < b1 := by omega
    have hai : a < i1 := by omega
    have hsp := gs1.out.swp (i := i) (j := j) ⟨by omega, by omega⟩ ⟨by omega, by omega⟩ (by rw [hl.out]; exact hb)
    go_wp2
    refine wp_nopan ?_
    refine wp_region_held (S := fun _ => True) (by kernel_rfl) ?_
    have hS : True := trivial
    have O4 := gO3.out.later (w' := { Wz with drawn := Wz.drawn + 1 }) ((Below.refl _ _).drew)
    have cy := O4.cell j (by rw [gl1.out]; exact hjn)
    have cx := O4.cell i (by rw [gl1.out]; exact hin)
    refine takeL (i := 0) (v := (.slice (some ⟨g, 0, none⟩) n cap)) rfl (by kernel_rfl) (by kernel_rfl) (by kernel_rfl) (fun _ _ _ h => h) rfl (by assumption) (fun w' hS' => by go_simp) ?_
    simp only [Act.put, List.setIfInBounds_toArray, List.set_cons_zero, List.set_cons_succ]
    refine takeL (i := 1) (v := (.int .i64 (i : Int))) rfl (by kernel_rfl) (by kernel_rfl) (by kernel_rfl) (fun _ _ _ h => h) rfl (by assumption) (fun w' hS' => by go_simp) ?_
    simp only [Act.put, List.setIfInBounds_toArray, List.set_cons_zero, List.set_cons_succ]
    refine takeL (i := 2) (v := (.slice (some ⟨g, 0, none⟩) n cap)) rfl (by kernel_rfl) (by kernel_rfl) (by kernel_rfl) (fun _ _ _ h => h) rfl (by assumption) (fun w' hS' => by go_simp) ?_
    simp only [Act.put, List.setIfInBounds_toArray, List.set_cons_zero, List.set_cons_succ]
    refine takeL (i := 3) (v := (.int .i64 (j : Int))) rfl (by kernel_rfl) (by kernel_rfl) (by kernel_rfl) (fun _ _ _ h => h) rfl (by assumption) (fun w' hS' => by go_simp) ?_
    simp only [Act.put, List.setIfInBounds_toArray, List.set_cons_zero, List.set_cons_succ]
    refine takeL (i := 4) (v := (.slice (some ⟨g, 0, none⟩) n cap)) rfl (by kernel_rfl) (by kernel_rfl) (by kernel_rfl) (fun _ _ _ h => h) rfl (by assumption) (fun w' hS' => by go_simp) ?_
    simp only [Act.put, List.setIfInBounds_toArray, List.set_cons_zero, List.set_cons_succ]
    refine takeL (i := 5) (v := (.int .i64 (j : Int))) rfl (by kernel_rfl) (by kernel_rfl) (by kernel_rfl) (fun _ _ _ h => h) rfl (by assumption) (fun w' hS' => by go_simp) ?_
    simp only [Act.put, List.setIfInBounds_toArray, List.set_cons_zero, List.set_cons_succ]
    refine takeL (i := 6) (v := (.pointer (some ⟨g, j, none⟩))) rfl (by kernel_rfl) (by kernel_rfl) (by kernel_rfl) (fun _ _ _ h => h) rfl (by assumption) (fun w' hS' => run_index_slice _ 37 22 (.tmp 85) (.tmp 86) rfl Tryd.underlying37 1 sz_u64 g 0 n cap rfl .i64 j rfl hjn j (by omega)) ?_
    simp only [Act.put, List.setIfInBounds_toArray, List.set_cons_zero, List.set_cons_succ]
    refine takeL (i := 8) (v := (.slice (some ⟨g, 0, none⟩) n cap)) rfl (by kernel_rfl) (by kernel_rfl) (by kernel_rfl) (fun _ _ _ h => h) rfl (by assumption) (fun w' hS' => by go_simp) ?_
    simp only [Act.put, List.setIfInBounds_toArray, List.set_cons_zero, List.set_cons_succ]
    refine takeL (i := 9) (v := (.int .i64 (i : Int))) rfl (by kernel_rfl) (by kernel_rfl) (by kernel_rfl) (fun _ _ _ h => h) rfl (by assumption) (fun w' hS' => by go_simp) ?_
    simp only [Act.put, List.setIfInBounds_toArray, List.set_cons_zero, List.set_cons_succ]
    refine takeL (i := 10) (v := (.pointer (some ⟨g, i, none⟩))) rfl (by kernel_rfl) (by kernel_rfl) (by kernel_rfl) (fun _ _ _ h => h) rfl (by assumption) (fun w' hS' => run_index_slice _ 37 22 (.tmp 89) (.tmp 90) rfl Tryd.underlying37 1 sz_u64 g 0 n cap rfl .i64 i rfl hin i (by omega)) ?_
    simp only [Act.put, List.setIfInBounds_toArray, List.set_cons_zero, List.set_cons_succ]
    refine pairL (i := 7) (k := 11) (.int .u64 (L1.getD j 0)) (.int .u64 (L1.getD i 0)) (Wn := { Wz with drawn := Wz.drawn + 1 }) rfl rfl (by kernel_rfl) (by kernel_rfl) (by kernel_rfl) rfl rfl rfl rfl (run_load_cell _ 22 (.tmp 87) rfl ⟨g, j, none⟩ rfl _ cy _ Tryd.underlying22 rfl) (run_load_cell _ 22 (.tmp 87) rfl ⟨g, j, none⟩ rfl _ cy _ Tryd.underlying22 rfl) (run_load_cell _ 22 (.tmp 91) rfl ⟨g, i, none⟩ rfl _ cx _ Tryd.underlying22 rfl) (run_load_cell _ 22 (.tmp 91) rfl ⟨g, i, none⟩ rfl _ cx _ Tryd.underlying22 rfl) trivial trivial (by kernel_rfl) (by rfl) ?_
    simp only [Act.put, List.setIfInBounds_toArray, List.set_cons_zero, List.set_cons_succ]
    refine takeL (i := 12) (v := (.pointer (some ⟨g, i, none⟩))) rfl (by kernel_rfl) (by kernel_rfl) (by kernel_rfl) (fun _ _ _ h => h) rfl (by assumption) (fun w' hS' => run_index_slice _ 37 22 (.tmp 81) (.tmp 82) rfl Tryd.underlying37 1 sz_u64 g 0 n cap rfl .i64 i rfl hin i (by omega)) ?_
    simp only [Act.put, List.setIfInBounds_toArray, List.set_cons_zero, List.set_cons_succ]
    refine oneL (i := 13) rfl (by kernel_rfl) rfl (wp_storeU (.tmp 93) (.tmp 88) rfl base g n cap i L1 O4 rfl (L1.getD j 0) rfl (by rw [gl1.out]; exact hin) ?_)
    intro W3 hO5 hA5
    refine ⟨trivial, ?_⟩
    simp only [Act.put, List.setIfInBounds_toArray, List.set_cons_zero, List.set_cons_succ]
    refine takeL (i := 14) (v := (.pointer (some ⟨g, j, none⟩))) rfl (by kernel_rfl) (by kernel_rfl) (by kernel_rfl) (fun _ _ _ h => h) rfl (by assumption) (fun w' hS' => run_index_slice _ 37 22 (.tmp 83) (.tmp 84) rfl Tryd.underlying37 1 sz_u64 g 0 n cap rfl .i64 j rfl hjn j (by omega)) ?_
    simp only [Act.put, List.setIfInBounds_toArray, List.set_cons_zero, List.set_cons_succ]
    refine oneL (i := 15) rfl (by kernel_rfl) rfl (wp_storeU (.tmp 94) (.tmp 92) rfl base g n cap j (L1.set i (L1.getD j 0)) hO5 rfl (L1.getD i 0) rfl (by rw [List.length_set, gl1.out]; exact hjn) ?_)
    intro W4 hO6 hA6
    refine ⟨trivial, ?_⟩
    simp only [Act.put, List.setIfInBounds_toArray, List.set_cons_zero, List.set_cons_succ]
    refine wpAnyH_done (by kernel_rfl) ?_ _
    simp only [NoPan]
    rw [swp_two] at hO6
    have hA7 := ((gA3.out.trans (Apart.begin g Wz)).trans hA5).trans hA6
    refine gen_q (fun W2 => OwU base (.slice (some ⟨g, 0, none⟩) n cap) (swp L1 i j) W2 ∧ Apart g w W2) ⟨hO6, hA7⟩ ?_
    clear hA7 hO6 hA6 hO5 hA5 O4 hS cx cy
    rintro WS3 ⟨o2, a2⟩
    have gS3 := Lib.hid o2
    have gAS3 := Lib.hid a2
    clear o2 a2
    obtain ⟨L2, x1, x2, x3, x4⟩ : ∃ L2, OwU base (.slice (some ⟨g, 0, none⟩) n cap) L2 WS3 ∧ SegP a b l L2 ∧ L2.length = n ∧ PartI a b i1 j1 L2 := ⟨_, gS3.out, hsp, by rw [swp_length, gl1.out], hP⟩
    have gO4 := Lib.hid x1
    have gs4 := Lib.hid x2
    have gl4 := Lib.hid x3
    have gP4 := Lib.hid x4
    have ghi1 := Lib.hid hi1
    have ghj1 := Lib.hid hj1
    clear gS3 x1 x2 x3 x4 hsp hP gP q1 q2 q3 q4 p1 p2 p3 p4 q1' q2' p1' p2' gs1 gl1 gO3 gA3 hi1 hj1 lc c1 hlt hin hjn gb1' ga1'
    go_wp2
    go_loopw [10, 11] (fun vi vj wr => ∃ (i j : Nat) (L : List Int), a < i ∧ i ≤ j + 1 ∧ j < b1 ∧ vi = .int .i64 (i : Int) ∧ vj = .int .i64 (j : Int) ∧ OwU base (.slice (some ⟨g, 0, none⟩) n cap) L wr ∧ SegP a b l L ∧ PartI a b i j L ∧ Apart g w wr) (fun vi vj _ => (intOf vj).toNat + 2 - (intOf vi).toNat)
    case atStart => exact ⟨i1, j1, L2, hai, hij1, hjb, rfl, rfl, gO4.out, gs4.out, gP4.out, gAS3.out⟩
    case round =>
      obtain ⟨i, j, L, r1, r2, r3, rfl, rfl, o1, s1, pp1, a1'⟩ := hrel
      have gO := Lib.hid o1
      have gs := Lib.hid s1
      have gP := Lib.hid pp1
      have gA := Lib.hid a1'
      have gl := Lib.hid (s1.len.trans hl.out)
      have q0 := Lib.hid r1
      clear o1 s1 pp1 a1' gO4 gs4 gl4 gP4 gAS3 hai hij1 hjb wi wj ghi1 ghj1
      have gb1' := gb1.out
      go_wp2
      refine scanP6 base g n cap a i j (L.getD a 0) L wr hn gO.out gl.out rfl han (by omega) (by omega) _ _ _ _ _ _ _ _ _ _ _ _ _ _ _ _ _ _ _ _ _ _ _ _ _ _ _ _ _ _ _ _ _ _ _ _ _ _ _ _ _ _ _ _ _ _ _ _ _ _ _ _ _ _ _ _ _ _ _ _ _ _ _ _ _ _ _ _ _ _ _ _ _ _ _ _ _ _ _ _ _ _ _ _ _ _ _ _ _ _ _ _ _ _ _ _ _ _ _ _ _ _ _ _ _ _ _ _ _ _ _ _ _ _ _ _ _ _ _ _ _ _ _ _ _ _ _ _ _ _ _ _ _ _ _ _ _ _ _ _ _ _ _ _ _ _ _ _ _ _ _ _ _ _ _ _ _ _ _ _ _ _ _ _ ?_
      intro y99 y100 y101 y102 y103 y104 y105 y106 y107 y108 y109 y110 y111 y112 y113 y114 i2 Wy r1 r2 r3 r4 o1 a1'
      have q1 := Lib.hid r1
      have q2 := Lib.hid r2
      have q3 := Lib.hid r3
      have q4 := Lib.hid r4
      have gO2 := Lib.hid o1
      have gA2 := Lib.hid (gA.out.trans a1')
      clear r1 r2 r3 r4 o1 a1' gA gO
      go_wp2
      refine scanP8 base g n cap a i2 j (L.getD a 0) L Wy hn gO2.out gl.out rfl han (by omega) (by have := q2.out; omega) (by have := q1.out; have := q0.out; omega) _ _ _ _ _ _ _ _ _ _ _ _ _ _ _ _ _ _ _ _ _ _ _ _ _ _ _ _ _ _ _ _ _ _ _ _ _ _ _ _ _ _ _ _ _ _ _ _ _ _ _ _ _ _ _ _ _ _ _ _ _ _ _ _ _ _ _ _ _ _ _ _ _ _ _ _ _ _ _ _ _ _ _ _ _ _ _ _ _ _ _ _ _ _ _ _ _ _ _ _ _ _ _ _ _ _ _ _ _ _ _ _ _ _ _ _ _ _ _ _ _ _ _ _ _ _ _ _ _ _ _ _ _ _ _ _ _ _ _ _ _ _ _ _ _ _ _ _ _ _ _ _ _ _ _ _ _ _ _ _ _ _ _ _ ?_
      intro z115 z116 z117 z118 z119 z120 z121 z122 z123 z124 z125 z126 z127 z128 z129 z130 z131 j2 Wz r1 r2 r3 r4 o1 a1'
      have p1 := Lib.hid r1
      have p2 := Lib.hid r2
      have p3 := Lib.hid r3
      have p4 := Lib.hid r4
      have gO3 := Lib.hid o1
      have gA3 := Lib.hid (gA2.out.trans a1')
      clear r1 r2 r3 r4 o1 a1' gA2 gO2
      have gP2 := Lib.hid (show PartI a b i2 j2 L from ⟨fun z z1 z2 => by
        by_cases e : z < i
        · exact gP.out.lo z z1 e
        · exact q3.out z (by omega) z2, fun z z1 z2 => by
        by_cases e : j < z
        · exact gP.out.hi z e z2
        · exact p3.out z z1 (by omega)⟩)
      have q0' := q0.out
      have q1' := q1.out
      have q2' := q2.out
      have p1' := p1.out
      have p2' := p2.out
      by_cases c1 : j2 < i2
      · have lc : decide ((i2 : Int) > (j2 : Int)) = true := by simp; omega
        have haj : a ≤ j2 := by omega
        have hjn : j2 < n := by omega
        go_wp2
        refine wp_nopan ?_
        refine wp_region_held (S := fun _ => True) (by kernel_rfl) ?_
        have hS : True := trivial
        have O4 := gO3.out.later (w' := { Wz with drawn := Wz.drawn + 1 }) ((Below.refl _ _).drew)
        have cy := O4.cell a (by rw [gl.out]; exact han)
        have cx := O4.cell j2 (by rw [gl.out]; exact hjn)
        refine takeL (i := 0) (v := (.slice (some ⟨g, 0, none⟩) n cap)) rfl (by kernel_rfl) (by kernel_rfl) (by kernel_rfl) (fun _ _ _ h => h) rfl (by assumption) (fun w' hS' => by go_simp) ?_
        simp only [Act.put, List.setIfInBounds_toArray, List.set_cons_zero, List.set_cons_succ]
        refine takeL (i := 1) (v := (.int .i64 (j2 : Int))) rfl (by kernel_rfl) (by kernel_rfl) (by kernel_rfl) (fun _ _ _ h => h) rfl (by assumption) (fun w' hS' => by go_simp) ?_
        simp only [Act.put, List.setIfInBounds_toArray, List.set_cons_zero, List.set_cons_succ]
        refine takeL (i := 2) (v := (.slice (some ⟨g, 0, none⟩) n cap)) rfl (by kernel_rfl) (by kernel_rfl) (by kernel_rfl) (fun _ _ _ h => h) rfl (by assumption) (fun w' hS' => by go_simp) ?_
        simp only [Act.put, List.setIfInBounds_toArray, List.set_cons_zero, List.set_cons_succ]
        refine takeL (i := 3) (v := (.int .i64 (a : Int))) rfl (by kernel_rfl) (by kernel_rfl) (by kernel_rfl) (fun _ _ _ h => h) rfl (by assumption) (fun w' hS' => by go_simp) ?_
        simp only [Act.put, List.setIfInBounds_toArray, List.set_cons_zero, List.set_cons_succ]
        refine takeL (i := 4) (v := (.slice (some ⟨g, 0, none⟩) n cap)) rfl (by kernel_rfl) (by kernel_rfl) (by kernel_rfl) (fun _ _ _ h => h) rfl (by assumption) (fun w' hS' => by go_simp) ?_
        simp only [Act.put, List.setIfInBounds_toArray, List.set_cons_zero, List.set_cons_succ]
        refine takeL (i := 5) (v := (.int .i64 (a : Int))) rfl (by kernel_rfl) (by kernel_rfl) (by kernel_rfl) (fun _ _ _ h => h) rfl (by assumption) (fun w' hS' => by go_simp) ?_
        simp only [Act.put, List.setIfInBounds_toArray, List.set_cons_zero, List.set_cons_succ]
        refine takeL (i := 6) (v := (.pointer (some ⟨g, a, none⟩))) rfl (by kernel_rfl) (by kernel_rfl) (by kernel_rfl) (fun _ _ _ h => h) rfl (by assumption) (fun w' hS' => run_index_slice _ 37 22 (.tmp 157) (.tmp 158) rfl Tryd.underlying37 1 sz_u64 g 0 n cap rfl .i64 a rfl han a (by omega)) ?_
        simp only [Act.put, List.setIfInBounds_toArray, List.set_cons_zero, List.set_cons_succ]
        refine takeL (i := 8) (v := (.slice (some ⟨g, 0, none⟩) n cap)) rfl (by kernel_rfl) (by kernel_rfl) (by kernel_rfl) (fun _ _ _ h => h) rfl (by assumption) (fun w' hS' => by go_simp) ?_
        simp only [Act.put, List.setIfInBounds_toArray, List.set_cons_zero, List.set_cons_succ]
        refine takeL (i := 9) (v := (.int .i64 (j2 : Int))) rfl (by kernel_rfl) (by kernel_rfl) (by kernel_rfl) (fun _ _ _ h => h) rfl (by assumption) (fun w' hS' => by go_simp) ?_
        simp only [Act.put, List.setIfInBounds_toArray, List.set_cons_zero, List.set_cons_succ]
        refine takeL (i := 10) (v := (.pointer (some ⟨g, j2, none⟩))) rfl (by kernel_rfl) (by kernel_rfl) (by kernel_rfl) (fun _ _ _ h => h) rfl (by assumption) (fun w' hS' => run_index_slice _ 37 22 (.tmp 161) (.tmp 162) rfl Tryd.underlying37 1 sz_u64 g 0 n cap rfl .i64 j2 rfl hjn j2 (by omega)) ?_
        simp only [Act.put, List.setIfInBounds_toArray, List.set_cons_zero, List.set_cons_succ]
        refine pairL (i := 7) (k := 11) (.int .u64 (L.getD a 0)) (.int .u64 (L.getD j2 0)) (Wn := { Wz with drawn := Wz.drawn + 1 }) rfl rfl (by kernel_rfl) (by kernel_rfl) (by kernel_rfl) rfl rfl rfl rfl (run_load_cell _ 22 (.tmp 159) rfl ⟨g, a, none⟩ rfl _ cy _ Tryd.underlying22 rfl) (run_load_cell _ 22 (.tmp 159) rfl ⟨g, a, none⟩ rfl _ cy _ Tryd.underlying22 rfl) (run_load_cell _ 22 (.tmp 163) rfl ⟨g, j2, none⟩ rfl _ cx _ Tryd.underlying22 rfl) (run_load_cell _ 22 (.tmp 163) rfl ⟨g, j2, none⟩ rfl _ cx _ Tryd.underlying22 rfl) trivial trivial (by kernel_rfl) (by rfl) ?_
        simp only [Act.put, List.setIfInBounds_toArray, List.set_cons_zero, List.set_cons_succ]
        refine takeL (i := 12) (v := (.pointer (some ⟨g, j2, none⟩))) rfl (by kernel_rfl) (by kernel_rfl) (by kernel_rfl) (fun _ _ _ h => h) rfl (by assumption) (fun w' hS' => run_index_slice _ 37 22 (.tmp 153) (.tmp 154) rfl Tryd.underlying37 1 sz_u64 g 0 n cap rfl .i64 j2 rfl hjn j2 (by omega)) ?_
        simp only [Act.put, List.setIfInBounds_toArray, List.set_cons_zero, List.set_cons_succ]
        refine oneL (i := 13) rfl (by kernel_rfl) rfl (wp_storeU (.tmp 165) (.tmp 160) rfl base g n cap j2 L O4 rfl (L.getD a 0) rfl (by rw [gl.out]; exact hjn) ?_)
        intro W3 hO5 hA5
        refine ⟨trivial, ?_⟩
        simp only [Act.put, List.setIfInBounds_toArray, List.set_cons_zero, List.set_cons_succ]
        refine takeL (i := 14) (v := (.pointer (some ⟨g, a, none⟩))) rfl (by kernel_rfl) (by kernel_rfl) (by kernel_rfl) (fun _ _ _ h => h) rfl (by assumption) (fun w' hS' => run_index_slice _ 37 22 (.tmp 155) (.tmp 156) rfl Tryd.underlying37 1 sz_u64 g 0 n cap rfl .i64 a rfl han a (by omega)) ?_
        simp only [Act.put, List.setIfInBounds_toArray, List.set_cons_zero, List.set_cons_succ]
        refine oneL (i := 15) rfl (by kernel_rfl) rfl (wp_storeU (.tmp 166) (.tmp 164) rfl base g n cap a (L.set j2 (L.getD a 0)) hO5 rfl (L.getD j2 0) rfl (by rw [List.length_set, gl.out]; exact han) ?_)
        intro W4 hO6 hA6
        refine ⟨trivial, ?_⟩
        simp only [Act.put, List.setIfInBounds_toArray, List.set_cons_zero, List.set_cons_succ]
        refine wpAnyH_done (by kernel_rfl) ?_ _
        simp only [NoPan]
        rw [swp_two] at hO6
        have hA7 := ((gA3.out.trans (Apart.begin g Wz)).trans hA5).trans hA6
        refine gen_q (fun W2 => OwU base (.slice (some ⟨g, 0, none⟩) n cap) (swp L j2 a) W2 ∧ Apart g w W2) ⟨hO6, hA7⟩ ?_
        clear hA7 hO6 hA6 hO5 hA5 O4 hS cx cy
        rintro WS2 ⟨o2, a2⟩
        have gS2 := Lib.hid o2
        have gAS2 := Lib.hid a2
        clear o2 a2
        have hji : i2 = j2 + 1 := by omega
        subst hji
        have hf := gP2.out.fin haj (by rw [gl.out]; exact hjn)
        go_wp2
        exact ret_t2 rfl _ _ rfl rfl rfl ⟨j2, false, _, rfl, gS2.out, gs.out.swp ⟨haj, by omega⟩ ⟨Nat.le_refl a, hab⟩ (by rw [hl.out]; exact hb), haj, by omega, hf.1, hf.2, gAS2.out⟩
      · have lc : decide ((i2 : Int) > (j2 : Int)) = false := by simp; omega
        have hlt : i2 < j2 := by
          rcases Nat.lt_or_ge i2 j2 with h | h
          · exact h
          · have e : i2 = j2 := by omega
            have h1 := p4.out (by omega)
            have h2 := q4.out (by omega)
            rw [e] at h2
            omega
        obtain ⟨j3, hj3⟩ : ∃ j3, j3 + 1 = j2 := ⟨j2 - 1, by omega⟩
        obtain ⟨i3, hi3⟩ : ∃ i3, i3 = i2 + 1 := ⟨_, rfl⟩
        have wi : IntKind.i64.wrap ((i2 : Int) + 1) = (i3 : Int) := by rw [IntKind.wrap_i64]; omega
        have wj : IntKind.i64.wrap ((j2 : Int) - 1) = (j3 : Int) := by rw [IntKind.wrap_i64]; omega
        have hin : i2 < n := by omega
        have hjn : j2 < n := by omega
        have hP := gP2.out.swp (j1 := j3) (by omega) hlt hj3 (by rw [gl.out]; exact hjn) (p4.out (by omega)) (q4.out (by omega))
        rw [← hi3] at hP
        have gP3 := Lib.hid hP
        have gsp := Lib.hid (gs.out.swp (i := i2) (j := j2) ⟨by omega, by omega⟩ ⟨by omega, by omega⟩ (by rw [hl.out]; exact hb))
        have k1 : a < i3 := by omega
        have k2 : i3 ≤ j3 + 1 := by omega
        have k3 : j3 < b1 := by omega
        have k4 : j3 + 2 - i3 < j + 2 - i := by omega
        clear hP hj3 hi3 q0' q1' q2' p1' p2' gb1'
        go_wp2
        refine wp_nopan ?_
        refine wp_region_held (S := fun _ => True) (by kernel_rfl) ?_
        have hS : True := trivial
        have O4 := gO3.out.later (w' := { Wz with drawn := Wz.drawn + 1 }) ((Below.refl _ _).drew)
        have cy := O4.cell j2 (by rw [gl.out]; exact hjn)
        have cx := O4.cell i2 (by rw [gl.out]; exact hin)
        refine takeL (i := 0) (v := (.slice (some ⟨g, 0, none⟩) n cap)) rfl (by kernel_rfl) (by kernel_rfl) (by kernel_rfl) (fun _ _ _ h => h) rfl (by assumption) (fun w' hS' => by go_simp) ?_
        simp only [Act.put, List.setIfInBounds_toArray, List.set_cons_zero, List.set_cons_succ]
        refine takeL (i := 1) (v := (.int .i64 (i2 : Int))) rfl (by kernel_rfl) (by kernel_rfl) (by kernel_rfl) (fun _ _ _ h => h) rfl (by assumption) (fun w' hS' => by go_simp) ?_
        simp only [Act.put, List.setIfInBounds_toArray, List.set_cons_zero, List.set_cons_succ]
        refine takeL (i := 2) (v := (.slice (some ⟨g, 0, none⟩) n cap)) rfl (by kernel_rfl) (by kernel_rfl) (by kernel_rfl) (fun _ _ _ h => h) rfl (by assumption) (fun w' hS' => by go_simp) ?_
        simp only [Act.put, List.setIfInBounds_toArray, List.set_cons_zero, List.set_cons_succ]
        refine takeL (i := 3) (v := (.int .i64 (j2 : Int))) rfl (by kernel_rfl) (by kernel_rfl) (by kernel_rfl) (fun _ _ _ h => h) rfl (by assumption) (fun w' hS' => by go_simp) ?_
        simp only [Act.put, List.setIfInBounds_toArray, List.set_cons_zero, List.set_cons_succ]
        refine takeL (i := 4) (v := (.slice (some ⟨g, 0, none⟩) n cap)) rfl (by kernel_rfl) (by kernel_rfl) (by kernel_rfl) (fun _ _ _ h => h) rfl (by assumption) (fun w' hS' => by go_simp) ?_
        simp only [Act.put, List.setIfInBounds_toArray, List.set_cons_zero, List.set_cons_succ]
        refine takeL (i := 5) (v := (.int .i64 (j2 : Int))) rfl (by kernel_rfl) (by kernel_rfl) (by kernel_rfl) (fun _ _ _ h => h) rfl (by assumption) (fun w' hS' => by go_simp) ?_
        simp only [Act.put, List.setIfInBounds_toArray, List.set_cons_zero, List.set_cons_succ]
        refine takeL (i := 6) (v := (.pointer (some ⟨g, j2, none⟩))) rfl (by kernel_rfl) (by kernel_rfl) (by kernel_rfl) (fun _ _ _ h => h) rfl (by assumption) (fun w' hS' => run_index_slice _ 37 22 (.tmp 139) (.tmp 140) rfl Tryd.underlying37 1 sz_u64 g 0 n cap rfl .i64 j2 rfl hjn j2 (by omega)) ?_
        simp only [Act.put, List.setIfInBounds_toArray, List.set_cons_zero, List.set_cons_succ]
        refine takeL (i := 8) (v := (.slice (some ⟨g, 0, none⟩) n cap)) rfl (by kernel_rfl) (by kernel_rfl) (by kernel_rfl) (fun _ _ _ h => h) rfl (by assumption) (fun w' hS' => by go_simp) ?_
        simp only [Act.put, List.setIfInBounds_toArray, List.set_cons_zero, List.set_cons_succ]
        refine takeL (i := 9) (v := (.int .i64 (i2 : Int))) rfl (by kernel_rfl) (by kernel_rfl) (by kernel_rfl) (fun _ _ _ h => h) rfl (by assumption) (fun w' hS' => by go_simp) ?_
        simp only [Act.put, List.setIfInBounds_toArray, List.set_cons_zero, List.set_cons_succ]
        refine takeL (i := 10) (v := (.pointer (some ⟨g, i2, none⟩))) rfl (by kernel_rfl) (by kernel_rfl) (by kernel_rfl) (fun _ _ _ h => h) rfl (by assumption) (fun w' hS' => run_index_slice _ 37 22 (.tmp 143) (.tmp 144) rfl Tryd.underlying37 1 sz_u64 g 0 n cap rfl .i64 i2 rfl hin i2 (by omega)) ?_
        simp only [Act.put, List.setIfInBounds_toArray, List.set_cons_zero, List.set_cons_succ]
        refine pairL (i := 7) (k := 11) (.int .u64 (L.getD j2 0)) (.int .u64 (L.getD i2 0)) (Wn := { Wz with drawn := Wz.drawn + 1 }) rfl rfl (by kernel_rfl) (by kernel_rfl) (by kernel_rfl) rfl rfl rfl rfl (run_load_cell _ 22 (.tmp 141) rfl ⟨g, j2, none⟩ rfl _ cy _ Tryd.underlying22 rfl) (run_load_cell _ 22 (.tmp 141) rfl ⟨g, j2, none⟩ rfl _ cy _ Tryd.underlying22 rfl) (run_load_cell _ 22 (.tmp 145) rfl ⟨g, i2, none⟩ rfl _ cx _ Tryd.underlying22 rfl) (run_load_cell _ 22 (.tmp 145) rfl ⟨g, i2, none⟩ rfl _ cx _ Tryd.underlying22 rfl) trivial trivial (by kernel_rfl) (by rfl) ?_
        simp only [Act.put, List.setIfInBounds_toArray, List.set_cons_zero, List.set_cons_succ]
        refine takeL (i := 12) (v := (.pointer (some ⟨g, i2, none⟩))) rfl (by kernel_rfl) (by kernel_rfl) (by kernel_rfl) (fun _ _ _ h => h) rfl (by assumption) (fun w' hS' => run_index_slice _ 37 22 (.tmp 135) (.tmp 136) rfl Tryd.underlying37 1 sz_u64 g 0 n cap rfl .i64 i2 rfl hin i2 (by omega)) ?_
        simp only [Act.put, List.setIfInBounds_toArray, List.set_cons_zero, List.set_cons_succ]
        refine oneL (i := 13) rfl (by kernel_rfl) rfl (wp_storeU (.tmp 147) (.tmp 142) rfl base g n cap i2 L O4 rfl (L.getD j2 0) rfl (by rw [gl.out]; exact hin) ?_)
        intro W3 hO5 hA5
        refine ⟨trivial, ?_⟩
        simp only [Act.put, List.setIfInBounds_toArray, List.set_cons_zero, List.set_cons_succ]
        refine takeL (i := 14) (v := (.pointer (some ⟨g, j2, none⟩))) rfl (by kernel_rfl) (by kernel_rfl) (by kernel_rfl) (fun _ _ _ h => h) rfl (by assumption) (fun w' hS' => run_index_slice _ 37 22 (.tmp 137) (.tmp 138) rfl Tryd.underlying37 1 sz_u64 g 0 n cap rfl .i64 j2 rfl hjn j2 (by omega)) ?_
        simp only [Act.put, List.setIfInBounds_toArray, List.set_cons_zero, List.set_cons_succ]
        refine oneL (i := 15) rfl (by kernel_rfl) rfl (wp_storeU (.tmp 148) (.tmp 146) rfl base g n cap j2 (L.set i2 (L.getD j2 0)) hO5 rfl (L.getD i2 0) rfl (by rw [List.length_set, gl.out]; exact hjn) ?_)
        intro W4 hO6 hA6
        refine ⟨trivial, ?_⟩
        simp only [Act.put, List.setIfInBounds_toArray, List.set_cons_zero, List.set_cons_succ]
        refine wpAnyH_done (by kernel_rfl) ?_ _
        simp only [NoPan]
        rw [swp_two] at hO6
        have hA7 := ((gA3.out.trans (Apart.begin g Wz)).trans hA5).trans hA6
        refine gen_q (fun W2 => OwU base (.slice (some ⟨g, 0, none⟩) n cap) (swp L i2 j2) W2 ∧ Apart g w W2) ⟨hO6, hA7⟩ ?_
        clear hA7 hO6 hA6 hO5 hA5 O4 hS cx cy
        rintro WS3 ⟨o2, a2⟩
        have gS3 := Lib.hid o2
        have gAS3 := Lib.hid a2
        clear o2 a2
        go_wp2
        exact ⟨⟨i3, j3, _, k1, k2, k3, rfl, rfl, gS3.out, gsp.out, gP3.out, gAS3.out⟩, by simpa [intOf] using k4⟩
end Go.Proofs.YtfnjcpopadpmbaaDoor
