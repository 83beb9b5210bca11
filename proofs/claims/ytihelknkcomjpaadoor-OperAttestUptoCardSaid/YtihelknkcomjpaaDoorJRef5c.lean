/- pharosref05: Depth and zeros. Slices cut at either end. -/
/- pharosref05: tree, Tree, Must. -/
/- pharosref05.Pack; pharosref07.chunk. -/
import Derived.Test.YtihelknkcomjpaaDoorJHash3
set_option linter.unusedVariables false
set_option linter.unusedSimpArgs false
set_option linter.unnecessarySimpa false
namespace Go.Proofs.YtihelknkcomjpaaDoor
open Go.RowKit BigFrame
set_option maxRecDepth 100000
/-- x[:hi]. -/
theorem run_slice_to {P : Program} {ρ : Operand → Value} {o : Oper} (w : World) (t e : TypeId) (x z : Operand) (ho : o.op = .slice t x none (some z) none) (hu : P.underlying t = some (.slice e)) (sz : Nat) (hsz : (P.info? e).map (·.size) = some sz) (b off len cap hi : Nat) (hx : ρ x = .slice (some ⟨b, off, none⟩) len cap) (hz : ρ z = .int .i64 (hi : Int)) (h : hi ≤ cap) :
    (execOp ρ o).run P w = .ok (.value (.slice (some ⟨b, off, none⟩) hi cap)) w := by
  have e1 : (0 : Int) ≤ (hi : Int) := by omega
  have e2 : (hi : Int) ≤ (cap : Int) := by omega
  unfold execOp
  simp only [ho, hx, hz, Option.map_some, Option.map_none, Instr.sliceAt, Instr.slice, Instr.sliceBounds, Instr.sliceBound, asIntOf, Sem.run_bind, Sem.run_pure, Result.andThen_ok, run_underlying hu, size_of hsz, if_pos (And.intro e1 e2), Int.toNat_natCast, Addr.add_mid, Nat.zero_mul, Nat.add_zero, ite_self, Nat.sub_zero]
/-- x[lo:], the end too. -/
theorem run_slice_end {P : Program} {ρ : Operand → Value} {o : Oper} (w : World) (t e : TypeId) (x y : Operand) (ho : o.op = .slice t x (some y) none none) (hu : P.underlying t = some (.slice e)) (sz : Nat) (hsz : (P.info? e).map (·.size) = some sz) (b off len cap k : Nat) (hx : ρ x = .slice (some ⟨b, off, none⟩) len cap) (hy : ρ y = .int .i64 (k : Int)) (hk : k ≤ len) :
    (execOp ρ o).run P w = .ok (.value (.slice (some ⟨b, if cap = k then off else off + k * sz, none⟩) (len - k) (cap - k))) w := by
  have e1 : (0 : Int) ≤ (k : Int) := by omega
  have e2 : (k : Int) ≤ (len : Int) := by omega
  unfold execOp
  simp only [ho, hx, hy, Option.map_some, Option.map_none, Instr.sliceAt, Instr.slice, Instr.sliceBounds, Instr.sliceBound, asIntOf, Sem.run_bind, Sem.run_pure, Result.andThen_ok, run_underlying hu, size_of hsz, if_pos (And.intro e1 e2), Int.toNat_natCast, Addr.add_mid]
  by_cases c : cap = k
  · simp only [if_pos c]
  · simp only [if_neg c, Option.map_some]
/-- The roots of a slice, wherever they lie. -/
structure RowR (w : World) (va : Option Addr) (rs : List (Nat → Int)) : Prop where
  cell : ∀ i, i < rs.length → ∃ b o, va = some ⟨b, o, none⟩ ∧ w.rangeAt b (o + 32 * i) (fcells 32 (fun _ => .u8) (leaf rs i))
  is : ∀ r ∈ rs, IsR r
theorem RowR.later {w w' : World} {n : Nat} {va : Option Addr} {rs : List (Nat → Int)} (h : RowR w va rs) (hb : Below n w w') (hn : ∀ b o, va = some ⟨b, o, none⟩ → b < n) : RowR w' va rs :=
  ⟨fun i hi => by
    obtain ⟨b, o, e, hc⟩ := h.cell i hi
    exact ⟨b, o, e, range_block hc (hb.block b (hn b o e))⟩, h.is⟩
theorem RootsAt.row {g cap k : Nat} {f : Nat → Nat → Int} {w : World} (h : RootsAt g cap k f w) (rs : List (Nat → Int)) (hl : rs.length ≤ k) (hf : ∀ i, i < rs.length → leaf rs i = f i) (hi : ∀ r ∈ rs, IsR r) : RowR w (some ⟨g, 0, none⟩) rs :=
  ⟨fun i h1 => ⟨g, 0, rfl, by rw [hf i h1, Nat.zero_add]; exact h.range i (by omega)⟩, hi⟩
theorem RowR.take {w : World} {b o : Nat} {rs : List (Nat → Int)} (h : RowR w (some ⟨b, o, none⟩) rs) (k : Nat) : RowR w (some ⟨b, o, none⟩) (rs.take k) := by
  refine ⟨fun i hi => ⟨b, o, rfl, ?_⟩, fun r hr => h.is r (List.mem_of_mem_take hr)⟩
  have hi2 : i < k ∧ i < rs.length := by rw [List.length_take] at hi; omega
  obtain ⟨b', o', e, hc⟩ := h.cell i hi2.2
  cases e
  have e2 : leaf (rs.take k) i = leaf rs i := by simp only [leaf, List.getD, List.getElem?_take, if_pos hi2.1]
  rw [e2]
  exact hc
theorem RowR.drop {w : World} {b o : Nat} {rs : List (Nat → Int)} (h : RowR w (some ⟨b, o, none⟩) rs) (k o' : Nat) (ho : k < rs.length → o' = o + k * 32) : RowR w (some ⟨b, o', none⟩) (rs.drop k) := by
  refine ⟨fun i hi => ⟨b, o', rfl, ?_⟩, fun r hr => h.is r (List.mem_of_mem_drop hr)⟩
  have hi2 : k + i < rs.length := by rw [List.length_drop] at hi; omega
  obtain ⟨b', o2, e, hc⟩ := h.cell (k + i) hi2
  cases e
  have e2 : leaf (rs.drop k) i = leaf rs (k + i) := by simp only [leaf, List.getD, List.getElem?_drop]
  rw [e2, ho (by omega), show o + k * 32 + 32 * i = o + 32 * (k + i) by omega]
  exact hc
set_option maxHeartbeats 4000000 in
theorem depth_any (m d : Nat) (w : World) (hd : Dep m d) (hd40 : d ≤ 40) :
    Calls Tryd.prog 127 #[.int .i64 (m : Int)] w fun e w' => e = .returned (.int .i64 (d : Int)) ∧ w = w' := by
  have hd' := Lib.hid hd
  clear hd
  go_enter Tryd.func127, Tryd.ntmps127
  go_wp2
  go_loop [3] (fun i => ∃ k : Nat, k ≤ d ∧ i = .int .i64 (k : Int)) (fun i => d - (intOf i).toNat)
  case atStart => exact ⟨0, by omega, rfl⟩
  case round =>
    obtain ⟨k, hk, rfl⟩ := hrel
    have hp40 : 2 ^ k ≤ 1099511627776 := Nat.pow_le_pow_right (n := 2) (by decide) (show k ≤ 40 by omega)
    have hw0 : IntKind.u64.wrap (k : Int) = (k : Int) := by rw [IntKind.wrap_u64]; omega
    have lsh : (k : Int) < 64 := by omega
    obtain ⟨p, hp⟩ : ∃ p : Nat, 2 ^ k = p := ⟨_, rfl⟩
    have hpi : (2 : Int) ^ k = (p : Int) := by rw [← hp]; exact (Int.natCast_pow 2 k).symm ▸ rfl
    have hw1 : IntKind.i64.wrap ((2 : Int) ^ k) = (p : Int) := by rw [hpi, IntKind.wrap_i64]; omega
    have hp' := Lib.hid hp
    clear hp hpi
    by_cases hlt : k < d
    · have hlt' : ((p : Int) < (m : Int)) := by
        have h1 := hd'.out.2
        have h2 : 2 ^ k ≤ 2 ^ (d - 1) := Nat.pow_le_pow_right (by decide) (by omega)
        have h3 := hp'.out
        have h4 : 2 ^ (d - 1) < m := by rcases h1 with h1 | h1 <;> omega
        omega
      go_wp2
      go_round
      case rel => exact ⟨k + 1, by omega, by go_num⟩
      case measure => simp [intOf]; omega
    · have e : k = d := by omega
      subst e
      have hge : ¬ ((p : Int) < (m : Int)) := by
        have h1 := hd'.out.1
        have h3 := hp'.out
        omega
      go_wp2
      exact ret_t1 rfl _ rfl rfl ⟨rfl, rfl⟩
/-- The zero roots of the depths. -/
def zerosR (n : Nat) : List (Nat → Int) := (List.range n).map fun k => fullT k fun _ => zeroR
theorem zerosR_length (n : Nat) : (zerosR n).length = n := by simp [zerosR]
theorem zerosR_leaf (n k : Nat) (h : k < n) : leaf (zerosR n) k = fullT k fun _ => zeroR := by simp [leaf, zerosR, List.getD, h]
theorem zerosR_succ (n : Nat) (hn : 0 < n) : zerosR (n + 1) = zerosR n ++ [sha2 (fullT (n - 1) fun _ => zeroR) (fullT (n - 1) fun _ => zeroR)] := by
  obtain ⟨m, rfl⟩ : ∃ m, n = m + 1 := ⟨n - 1, by omega⟩
  simp only [zerosR, List.range_succ, List.map_append, List.map_cons, List.map_nil, Nat.add_sub_cancel]
  rfl
set_option maxHeartbeats 8000000 in
theorem zeros_any (d : Nat) (w : World) (hT0 : Tabs w) (hd40 : d ≤ 40) :
    Calls Tryd.prog 128 #[.int .i64 (d : Int)] w fun e w' => (∃ va c, e = .returned (.slice va (d + 1) c) ∧ OwnR w.heap.size (.slice va (d + 1) c) (zerosR (d + 1)) w') ∧ Below w.heap.size w w' := by
  have hT := Lib.hid hT0
  have hsz := hT0.size
  clear hT0
  go_enter Tryd.func128, Tryd.ntmps128
  go_wp2_with (first
    | ((with_reducible refine at_build 23 ?_); go_loud (refine wpList_value (by rfl) _ (run_build_root0 _ rfl) ?_))
    | ((with_reducible refine at_bslice 88 ?_); go_loud (refine wpList_plain rfl fun K hK => wp_ran _ (run_bslice_root _ _ rfl zeroR (by rfl)) (hK _ _ ?_)); clear hK K))
  have h1 : OwnR w.heap.size (.slice (some ⟨w.heap.size, 0, none⟩) 1 1) (zerosR 1) (w.alloc (.cells (rootV zeroR) 23)) := by
    refine own_of_roots (f := fun _ => zeroR) ⟨_, heap_new _ _ _ _ rfl, by simp [fcells], Nat.le_refl _, fun i hi j hj => ?_⟩ (by decide) (Nat.le_refl _) rfl (fun i hi => ?_)
    · have e : i = 0 := by omega
      subst e
      rw [Nat.mul_zero, Nat.zero_add, List.getElem?_toArray, fcells_get _ _ _ _ hj]
      rfl
    · have e : i = 0 := by omega
      subst e
      rfl
  refine gen_world (fun W => OwnR w.heap.size (.slice (some ⟨w.heap.size, 0, none⟩) 1 1) (zerosR 1) W ∧ Below w.heap.size w W) ⟨h1, (Below.refl _ _).alloc (Nat.le_refl _) _⟩ ?_
  clear h1
  rintro W0 ⟨hO0, hB0⟩
  go_loopw [3] (fun v wr => ∃ k : Nat, 1 ≤ k ∧ k ≤ d + 1 ∧ (∃ va c, v = .slice va k c) ∧ OwnR w.heap.size v (zerosR k) wr ∧ Below w.heap.size w wr) (fun v _ => d + 1 - vlen v)
  case atStart => exact ⟨1, by omega, by omega, ⟨_, _, rfl⟩, hO0, hB0⟩
  case round =>
    obtain ⟨k, hk1, hk2, ⟨va, c, rfl⟩, hO, hB⟩ := hrel
    clear hO0 hB0
    by_cases hlt : k ≤ d
    · have hlt' : ((k : Int) ≤ (d : Int)) := by omega
      obtain ⟨g, cap, e, hg, hR⟩ := roots_of_own hO (by rw [zerosR_length]; omega)
      rw [zerosR_length] at e hR
      obtain ⟨rfl, rfl⟩ : va = some ⟨g, 0, none⟩ ∧ c = cap := by injection e with e1 e2 e3; exact ⟨e1, e3⟩
      clear e
      have hla := hR.range (k - 1) (by omega)
      rw [zerosR_leaf k (k - 1) (by omega)] at hla
      have hla' := Lib.hid hla
      have hO' := Lib.hid hO
      have hR' := Lib.hid hR
      clear hla hO hR
      have hzi := Lib.hid (show IsR (fullT (k - 1) fun _ => zeroR) from fullT_is _ fun _ => zeroR_is)
      have hsu := Lib.hid (zerosR_succ k (by omega))
      generalize hz : fullT (k - 1) (fun _ => zeroR) = z at *
      clear hz
      have hw1 : IntKind.i64.wrap ((k : Int) - 1) = ((k - 1 : Nat) : Int) := by rw [IntKind.wrap_i64]; omega
      have hbs : w.heap.size ≤ wr.heap.size := hB.size
      go_wp2
      refine wp_region_held (S := fun _ => True) (by kernel_rfl) ?_
      have hS : True := trivial
      have hB3 : Below w.heap.size w { wr with drawn := wr.drawn + 1 } := hB.drew
      have hla3 : ({ wr with drawn := wr.drawn + 1 } : World).rangeAt g (32 * (k - 1)) (fcells 32 (fun _ => .u8) z) := hla'.out
      refine takeL (i := 0) (v := (.slice (some ⟨g, 0, none⟩) k c)) rfl (by kernel_rfl) (by kernel_rfl) (by kernel_rfl) (fun _ _ _ h => h) rfl (by assumption) (fun w' hS' => by go_simp) ?_
      simp only [Act.put, List.setIfInBounds_toArray, List.set_cons_zero, List.set_cons_succ]
      refine takeL (i := 1) (v := (.slice (some ⟨g, 0, none⟩) k c)) rfl (by kernel_rfl) (by kernel_rfl) (by kernel_rfl) (fun _ _ _ h => h) rfl (by assumption) (fun w' hS' => by go_simp) ?_
      simp only [Act.put, List.setIfInBounds_toArray, List.set_cons_zero, List.set_cons_succ]
      refine takeL (i := 2) (v := (.slice (some ⟨g, 0, none⟩) k c)) rfl (by kernel_rfl) (by kernel_rfl) (by kernel_rfl) (fun _ _ _ h => h) rfl (by assumption) (fun w' hS' => by go_simp) ?_
      simp only [Act.put, List.setIfInBounds_toArray, List.set_cons_zero, List.set_cons_succ]
      refine takeL (i := 7) (v := (.slice (some ⟨g, 0, none⟩) k c)) rfl (by kernel_rfl) (by kernel_rfl) (by kernel_rfl) (fun _ _ _ h => h) rfl (by assumption) (fun w' hS' => by go_simp) ?_
      simp only [Act.put, List.setIfInBounds_toArray, List.set_cons_zero, List.set_cons_succ]
      refine takeL (i := 8) (v := (.slice (some ⟨g, 0, none⟩) k c)) rfl (by kernel_rfl) (by kernel_rfl) (by kernel_rfl) (fun _ _ _ h => h) rfl (by assumption) (fun w' hS' => by go_simp) ?_
      simp only [Act.put, List.setIfInBounds_toArray, List.set_cons_zero, List.set_cons_succ]
      refine takeL (i := 3) (v := (.int .i64 (k : Int))) rfl (by kernel_rfl) (by kernel_rfl) (by kernel_rfl) (fun _ _ _ h => h) rfl (by assumption) (fun w' hS' => by go_simp) ?_
      simp only [Act.put, List.setIfInBounds_toArray, List.set_cons_zero, List.set_cons_succ]
      refine takeL (i := 9) (v := (.int .i64 (k : Int))) rfl (by kernel_rfl) (by kernel_rfl) (by kernel_rfl) (fun _ _ _ h => h) rfl (by assumption) (fun w' hS' => by go_simp) ?_
      simp only [Act.put, List.setIfInBounds_toArray, List.set_cons_zero, List.set_cons_succ]
      refine takeL (i := 4) (v := (.int .i64 ((k - 1 : Nat) : Int))) rfl (by kernel_rfl) (by kernel_rfl) (by kernel_rfl) (fun _ _ _ h => h) rfl (by assumption) (fun w' hS' => by go_simp) ?_
      simp only [Act.put, List.setIfInBounds_toArray, List.set_cons_zero, List.set_cons_succ]
      refine takeL (i := 10) (v := (.int .i64 ((k - 1 : Nat) : Int))) rfl (by kernel_rfl) (by kernel_rfl) (by kernel_rfl) (fun _ _ _ h => h) rfl (by assumption) (fun w' hS' => by go_simp) ?_
      simp only [Act.put, List.setIfInBounds_toArray, List.set_cons_zero, List.set_cons_succ]
      refine takeL (i := 5) (v := (.pointer (some ⟨g, 32 * (k - 1), none⟩))) rfl (by kernel_rfl) (by kernel_rfl) (by kernel_rfl) (fun _ _ _ h => h) rfl (by assumption) (fun w' _ => run_index_slice w' 88 23 _ _ (by rfl) Tryd.underlying88 32 (row_size row_root) g 0 k c (by rfl) .i64 (k - 1) (by rfl) (by omega) _ (by omega)) ?_
      simp only [Act.put, List.setIfInBounds_toArray, List.set_cons_zero, List.set_cons_succ]
      refine takeL (i := 11) (v := (.pointer (some ⟨g, 32 * (k - 1), none⟩))) rfl (by kernel_rfl) (by kernel_rfl) (by kernel_rfl) (fun _ _ _ h => h) rfl (by assumption) (fun w' _ => run_index_slice w' 88 23 _ _ (by rfl) Tryd.underlying88 32 (row_size row_root) g 0 k c (by rfl) .i64 (k - 1) (by rfl) (by omega) _ (by omega)) ?_
      simp only [Act.put, List.setIfInBounds_toArray, List.set_cons_zero, List.set_cons_succ]
      refine pairL (i := 6) (k := 12) (.agg (rootV z)) (.agg (rootV z)) (Wn := { wr with drawn := wr.drawn + 1 }) rfl rfl (by kernel_rfl) (by kernel_rfl) (by kernel_rfl) rfl rfl rfl rfl (run_load_rows _ 23 _ (by rfl) g _ (by rfl) _ _ hla3 Tryd.underlying23 rfl (by rw [row_size row_root, fcells_length])) (run_load_rows _ 23 _ (by rfl) g _ (by rfl) _ _ hla3 Tryd.underlying23 rfl (by rw [row_size row_root, fcells_length])) (run_load_rows _ 23 _ (by rfl) g _ (by rfl) _ _ hla3 Tryd.underlying23 rfl (by rw [row_size row_root, fcells_length])) (run_load_rows _ 23 _ (by rfl) g _ (by rfl) _ _ hla3 Tryd.underlying23 rfl (by rw [row_size row_root, fcells_length])) trivial trivial rfl rfl ?_
      simp only [Act.put, List.setIfInBounds_toArray, List.set_cons_zero, List.set_cons_succ]
      refine oneL (i := 13) rfl (by kernel_rfl) rfl (wp_call 112 #[.agg (rootV z), .agg (rootV z)] (by go_simp) _ _ (rtwo_any z z hzi.out hzi.out _ (hT.out.below hsz hB3)) ?_)
      intro W4 hB4
      refine ⟨trivial, ?_⟩
      simp only [Act.put, List.setIfInBounds_toArray, List.set_cons_zero, List.set_cons_succ]
      have hs4 := hB4.size
      have hbs4 : w.heap.size ≤ W4.heap.size := Nat.le_trans hbs hs4
      refine oneL (i := 14) rfl (by kernel_rfl) rfl (wp_ran _ (run_bslice_root _ _ rfl (sha2 z z) (by rfl)) ⟨trivial, ?_⟩)
      simp only [Act.put, List.setIfInBounds_toArray, List.set_cons_zero, List.set_cons_succ]
      have hO4 : OwnR w.heap.size (.slice (some ⟨g, 0, none⟩) k c) (zerosR k) (W4.alloc (.cells (rootV (sha2 z z)) 23)) := own_later (own_later (w := { wr with drawn := wr.drawn + 1 }) hO'.out hB4) ((Below.refl _ _).alloc (Nat.le_refl _) _)
      unfold OwnR at hO4
      rw [zerosR_length] at hO4
      refine oneL (i := 15) rfl (by kernel_rfl) rfl (wp_appS (.tmp 10) (.tmp 24) 88 23 rfl Tryd.underlying88 (.agg (rep 32)) 32 32 info_root rfl (by decide) w.heap.size k _ (rcells (zerosR k)) rfl hO4 ⟨W4.heap.size, 0, none⟩ 1 1 rfl (fcells 32 (fun _ => .u8) (sha2 z z)) (by rw [fcells_length]) (range_whole (heap_new _ _ _ _ rfl)) rfl fcells_mem (by omega) (by omega) (Nat.le_trans hbs4 (by simp)) (Nat.le_refl _) ((hB3.trans (hB4.mono (by exact hbs))).alloc hbs4 _) (fun v1 W2 h1 b1 z1 o1 q1 => ⟨trivial, ?_⟩))
      clear o1 q1 hO4
      rw [show rcells (zerosR k) ++ fcells 32 (fun _ => .u8) (sha2 z z) = rcells (zerosR (k + 1)) by rw [hsu.out, rcells_append, rcells_one]] at h1
      obtain ⟨va1, c1, e1, hva1⟩ := own_form h1
      clear hva1
      subst e1
      simp only [Act.put, List.setIfInBounds_toArray, List.set_cons_zero, List.set_cons_succ]
      refine takeL (i := 16) (v := (.slice va1 (k + 1) c1)) rfl (by kernel_rfl) (by kernel_rfl) (by kernel_rfl) (fun _ _ _ h => h) rfl (by assumption) (fun w' hS' => by go_simp) ?_
      simp only [Act.put, List.setIfInBounds_toArray, List.set_cons_zero, List.set_cons_succ]
      refine wpAnyH_done (by kernel_rfl) ?_ _
      have h1' := Lib.hid h1
      have b1' := Lib.hid b1
      clear h1 b1 hB3 hB4 hla3 hS
      go_wp2
      refine ⟨⟨k + 1, by omega, by omega, ⟨_, _, rfl⟩, ?_, b1'.out⟩, by simp only [vlen]; omega⟩
      unfold OwnR
      rw [zerosR_length]
      exact h1'.out
    · have e : k = d + 1 := by omega
      subst e
      have hge : ¬ (((d + 1 : Nat) : Int) ≤ (d : Int)) := by omega
      have hO' := Lib.hid hO
      clear hO
      go_wp2
      exact ret_t1 rfl _ rfl rfl ⟨⟨va, c, rfl, hO'.out⟩, hB⟩
end Go.Proofs.YtihelknkcomjpaaDoor
namespace Go.Proofs.YtihelknkcomjpaaDoor
open Go.RowKit BigFrame
set_option maxRecDepth 100000
theorem leaf_take (rs : List (Nat → Int)) (k i : Nat) (h : i < k) : leaf (rs.take k) i = leaf rs i := by simp only [leaf, List.getD, List.getElem?_take, if_pos h]
theorem leaf_drop (rs : List (Nat → Int)) (k i : Nat) : leaf (rs.drop k) i = leaf rs (i + k) := by simp only [leaf, List.getD, List.getElem?_drop, Nat.add_comm]
theorem leaf_end (rs : List (Nat → Int)) (i : Nat) (h : rs.length ≤ i) : leaf rs i = zeroR := by simp [leaf, List.getD, h]
theorem leaf_nil : leaf [] = fun _ => zeroR := by funext i; simp [leaf, List.getD]
/-- A tree of one more level: the halves. -/
theorem tree_split (d : Nat) (rs : List (Nat → Int)) (half : Nat) (h : half = 2 ^ d ∨ (half = rs.length ∧ rs.length ≤ 2 ^ d)) :
    fullT (d + 1) (leaf rs) = sha2 (fullT d (leaf (rs.take half))) (fullT d (leaf (rs.drop half))) := by
  have e1 : fullT d (leaf (rs.take half)) = fullT d (leaf rs) := fullT_congr d fun i hi => by
    rcases h with h | h
    · exact leaf_take rs half i (by omega)
    · rw [h.1, List.take_length]
  have e2 : fullT d (leaf (rs.drop half)) = fullT d (fun i => leaf rs (i + 2 ^ d)) := fullT_congr d fun i hi => by
    rw [leaf_drop]
    rcases h with h | h
    · rw [h]
    · rw [leaf_end rs (i + half) (by omega), leaf_end rs (i + 2 ^ d) (by omega)]
  rw [e1, e2]
  rfl
set_option maxHeartbeats 8000000 in
theorem rtree_any : ∀ (d : Nat) (rs : List (Nat → Int)) (n : Nat) (va : Option Addr) (c zg zc m : Nat) (w : World), d ≤ 40 → rs.length = n → n ≤ 2 ^ d → RowR w va rs → (∀ b o, va = some ⟨b, o, none⟩ → b < w.heap.size) → n ≤ c → RootsAt zg zc m (fun k => fullT k fun _ => zeroR) w → d < m → Tabs w →
    Calls Tryd.prog 126 #[.slice va n c, .int .i64 (d : Int), .slice (some ⟨zg, 0, none⟩) m zc] w fun e w' => e = .returned (.agg (rootV (fullT d (leaf rs)))) ∧ Below w.heap.size w w' := by
  intro d
  induction d with
  | zero =>
    intro rs n va c zg zc m w hd40 hn hle hrow hlow hc hz hm hT
    have hsz := hT.size
    have hz0 := Lib.hid (hz.range 0 hm)
    have hzl := hz.lt
    clear hT hz
    by_cases h0 : n = 0
    · subst h0
      have e0 : rs = [] := List.eq_nil_of_length_eq_zero hn
      subst e0
      clear hn hrow hlow
      go_enter Tryd.func126, Tryd.ntmps126
      go_wp2_with (first
        | ((with_reducible refine at_alloc 23 ?_); go_loud (refine wpList_plain rfl fun K hK => wp_alloc_row 23 rfl 6 rfl zr 32 info_zr (hK _ _ ?_)); clear hK K)
        | ((with_reducible refine at_iaddr 88 ?_); go_loud (refine wpList_value (by rfl) _ (run_index_slice _ 88 23 _ _ rfl Tryd.underlying88 32 (row_size row_root) zg 0 m zc rfl .i64 0 rfl (by omega) 0 (by omega)) ?_))
        | ((with_reducible refine at_load 23 ?_); go_loud (refine wpList_value (by rfl) _ (run_load_rows _ 23 _ (by rfl) zg 0 (by rfl) _ _ (range_block hz0.out (((Below.refl _ _).alloc (Nat.le_refl _) _).block zg hzl)) Tryd.underlying23 rfl (by rw [row_size row_root, fcells_length])) ?_))
        | ((with_reducible refine at_store 23 ?_); go_loud (refine wpList_store_row_gen (w0 := w) (n0 := w.heap.size) 23 _ _ rfl rfl w.heap.size rfl _ rfl (fcells_one _ _ _) (by rw [row_size row_root]; simp [fcells]) _ 23 (heap_new _ _ _ _ rfl) (by rw [zr_size]; simp [fcells]) (by omega) ((Below.refl _ _).alloc (Nat.le_refl _) _) (fun W9 hW9 hBW _ => ?_))))
      exact ret_cell rfl w.heap.size 0 (fcells 32 (fun _ => .u8) zeroR) _ rfl hW9 Tryd.underlying23 rfl (by rw [row_size row_root, fcells_length]) rfl ⟨by rw [leaf_nil]; rfl, hBW⟩
    · have hne : ((n : Int) == 0) = false := by simp [h0]
      obtain ⟨b, o, rfl, hr0⟩ := hrow.cell 0 (by omega)
      have hr0' := Lib.hid hr0
      have hbl := hlow b o rfl
      clear hrow hlow hr0 hn
      go_enter Tryd.func126, Tryd.ntmps126
      go_wp2_with (first
        | ((with_reducible refine at_alloc 23 ?_); go_loud (refine wpList_plain rfl fun K hK => wp_alloc_row 23 rfl 6 rfl zr 32 info_zr (hK _ _ ?_)); clear hK K)
        | ((with_reducible refine at_iaddr 88 ?_); go_loud (refine wpList_value (by rfl) _ (run_index_slice _ 88 23 _ _ rfl Tryd.underlying88 32 (row_size row_root) b o n c rfl .i64 0 rfl (by omega) o (by omega)) ?_))
        | ((with_reducible refine at_load 23 ?_); go_loud (refine wpList_value (by rfl) _ (run_load_rows _ 23 _ (by rfl) b o (by rfl) _ _ (range_block hr0'.out (((Below.refl _ _).alloc (Nat.le_refl _) _).block b hbl)) Tryd.underlying23 rfl (by rw [row_size row_root, fcells_length])) ?_))
        | ((with_reducible refine at_store 23 ?_); go_loud (refine wpList_store_row_gen (w0 := w) (n0 := w.heap.size) 23 _ _ rfl rfl w.heap.size rfl _ rfl (fcells_one _ _ _) (by rw [row_size row_root]; simp [fcells]) _ 23 (heap_new _ _ _ _ rfl) (by rw [zr_size]; simp [fcells]) (by omega) ((Below.refl _ _).alloc (Nat.le_refl _) _) (fun W9 hW9 hBW _ => ?_))))
      exact ret_cell rfl w.heap.size 0 (fcells 32 (fun _ => .u8) (leaf rs 0)) _ rfl hW9 Tryd.underlying23 rfl (by rw [row_size row_root, fcells_length]) rfl ⟨rfl, hBW⟩
  | succ d ih =>
    intro rs n va c zg zc m w hd40 hn0 hle hrow0 hlow0 hc hz0 hm hT0
    have hsz := hT0.size
    have hzd := Lib.hid (hz0.range (d + 1) hm)
    have hzl := hz0.lt
    have hz := Lib.hid hz0
    have hT := Lib.hid hT0
    have hn := Lib.hid hn0
    have hrow := Lib.hid hrow0
    have hlow := Lib.hid hlow0
    have hp40 : 2 ^ d ≤ 1099511627776 := Nat.pow_le_pow_right (n := 2) (by decide) (show d ≤ 40 by omega)
    have hle2 := Lib.hid hle
    clear hz0 hT0 hn0 hrow0 hlow0 hle
    by_cases h0 : n = 0
    · subst h0
      have e0 : rs = [] := List.eq_nil_of_length_eq_zero hn.out
      subst e0
      clear hn hrow hlow ih
      rw [leaf_nil]
      generalize d + 1 = D at *
      go_enter Tryd.func126, Tryd.ntmps126
      go_wp2_with (first
        | ((with_reducible refine at_alloc 23 ?_); go_loud (refine wpList_plain rfl fun K hK => wp_alloc_row 23 rfl 6 rfl zr 32 info_zr (hK _ _ ?_)); clear hK K)
        | ((with_reducible refine at_iaddr 88 ?_); go_loud (refine wpList_value (by rfl) _ (run_index_slice _ 88 23 _ _ rfl Tryd.underlying88 32 (row_size row_root) zg 0 m zc rfl .i64 D rfl (by omega) (32 * D) (by omega)) ?_))
        | ((with_reducible refine at_load 23 ?_); go_loud (refine wpList_value (by rfl) _ (run_load_rows _ 23 _ (by rfl) zg (32 * D) (by rfl) _ _ (range_block hzd.out (((Below.refl _ _).alloc (Nat.le_refl _) _).block zg hzl)) Tryd.underlying23 rfl (by rw [row_size row_root, fcells_length])) ?_))
        | ((with_reducible refine at_store 23 ?_); go_loud (refine wpList_store_row_gen (w0 := w) (n0 := w.heap.size) 23 _ _ rfl rfl w.heap.size rfl _ rfl (fcells_one _ _ _) (by rw [row_size row_root]; simp [fcells]) _ 23 (heap_new _ _ _ _ rfl) (by rw [zr_size]; simp [fcells]) (by omega) ((Below.refl _ _).alloc (Nat.le_refl _) _) (fun W9 hW9 hBW _ => ?_))))
      exact ret_cell rfl w.heap.size 0 (fcells 32 (fun _ => .u8) (fullT D fun _ => zeroR)) _ rfl hW9 Tryd.underlying23 rfl (by rw [row_size row_root, fcells_length]) rfl ⟨rfl, hBW⟩
    · have hne : ((n : Int) == 0) = false := by simp [h0]
      obtain ⟨b, o, rfl, _⟩ := hrow.out.cell 0 (by have := hn.out; omega)
      have hnd : (((d + 1 : Nat) : Int) == 0) = false := by simp; omega
      have hw1 : IntKind.i64.wrap (((d + 1 : Nat) : Int) - 1) = (d : Int) := by rw [IntKind.wrap_i64]; omega
      have hw2 : IntKind.u64.wrap (d : Int) = (d : Int) := by rw [IntKind.wrap_u64]; omega
      have lsh : (d : Int) < 64 := by omega
      obtain ⟨p, hp⟩ : ∃ p : Nat, 2 ^ d = p := ⟨_, rfl⟩
      have hpi : (2 : Int) ^ d = (p : Int) := by rw [← hp]; exact (Int.natCast_pow 2 d).symm ▸ rfl
      have hw3 : IntKind.i64.wrap ((2 : Int) ^ d) = (p : Int) := by rw [hpi, IntKind.wrap_i64]; omega
      have hp' := Lib.hid hp
      clear hp hpi
      have hnp := hle2.out
      rw [Nat.pow_succ, hp'.out] at hnp
      generalize hD : ((d + 1 : Nat) : Int) = D at hnd hw1 ⊢
      have hD' := Lib.hid hD
      clear hD
      have hA : ∀ (W : World), W = w.alloc (.cells zr 23) → True := fun _ _ => trivial
      clear hA
      go_enter Tryd.func126, Tryd.ntmps126
      by_cases hlt : n < p
      · have hgt : decide ((n : Int) < (p : Int)) = true := by simp; omega
        go_wp2_with (
          ((with_reducible refine at_alloc 23 ?_); go_loud (refine wpList_plain rfl fun K hK => wp_alloc_row 23 rfl 6 rfl zr 32 info_zr (hK _ _ ?_)); clear hK K))
        have hsp := Lib.hid (tree_split d rs n (Or.inr ⟨hn.out.symm, by have := hp'.out; have := hn.out; omega⟩))
        rename_i K hK
        have hih1 := Lib.hid (ih (rs.take n) n (some ⟨b, o, none⟩) c zg zc m)
        have hih2 := Lib.hid (ih (rs.drop n) (n - n) (some ⟨b, if c = n then o else o + n * 32, none⟩) (c - n) zg zc m)
        refine gen_world (fun W => W.heap[w.heap.size]? = some (.cells zr 23 (0, 0)) ∧ Below w.heap.size w W ∧ w.heap.size + 1 ≤ W.heap.size) ⟨heap_new _ _ _ _ rfl, (Below.refl _ _).alloc (Nat.le_refl _) _, by rw [World.size_alloc]; omega⟩ ?_
        rintro W0 ⟨hC0, hB0, hs0⟩
        refine wp_region_held (S := fun _ => True) (by kernel_rfl) ?_
        have hS : True := trivial
        have hB1 : Below w.heap.size w { W0 with drawn := W0.drawn + 1 } := hB0.drew
        refine takeL (i := 0) (v := (.slice (some ⟨b, o, none⟩) n c)) rfl (by kernel_rfl) (by kernel_rfl) (by kernel_rfl) (fun _ _ _ h => h) rfl (by assumption) (fun w' hS' => by go_simp) ?_
        simp only [Act.put, List.setIfInBounds_toArray, List.set_cons_zero, List.set_cons_succ]
        refine takeL (i := 1) (v := (.int .i64 (n : Int))) rfl (by kernel_rfl) (by kernel_rfl) (by kernel_rfl) (fun _ _ _ h => h) rfl (by assumption) (fun w' hS' => by go_simp) ?_
        simp only [Act.put, List.setIfInBounds_toArray, List.set_cons_zero, List.set_cons_succ]
        refine takeL (i := 3) (v := (.int .i64 D)) rfl (by kernel_rfl) (by kernel_rfl) (by kernel_rfl) (fun _ _ _ h => h) rfl (by assumption) (fun w' hS' => by go_simp) ?_
        simp only [Act.put, List.setIfInBounds_toArray, List.set_cons_zero, List.set_cons_succ]
        refine takeL (i := 5) (v := (.slice (some ⟨zg, 0, none⟩) m zc)) rfl (by kernel_rfl) (by kernel_rfl) (by kernel_rfl) (fun _ _ _ h => h) rfl (by assumption) (fun w' hS' => by go_simp) ?_
        simp only [Act.put, List.setIfInBounds_toArray, List.set_cons_zero, List.set_cons_succ]
        refine takeL (i := 7) (v := (.slice (some ⟨b, o, none⟩) n c)) rfl (by kernel_rfl) (by kernel_rfl) (by kernel_rfl) (fun _ _ _ h => h) rfl (by assumption) (fun w' hS' => by go_simp) ?_
        simp only [Act.put, List.setIfInBounds_toArray, List.set_cons_zero, List.set_cons_succ]
        refine takeL (i := 8) (v := (.int .i64 (n : Int))) rfl (by kernel_rfl) (by kernel_rfl) (by kernel_rfl) (fun _ _ _ h => h) rfl (by assumption) (fun w' hS' => by go_simp) ?_
        simp only [Act.put, List.setIfInBounds_toArray, List.set_cons_zero, List.set_cons_succ]
        refine takeL (i := 10) (v := (.int .i64 D)) rfl (by kernel_rfl) (by kernel_rfl) (by kernel_rfl) (fun _ _ _ h => h) rfl (by assumption) (fun w' hS' => by go_simp) ?_
        simp only [Act.put, List.setIfInBounds_toArray, List.set_cons_zero, List.set_cons_succ]
        refine takeL (i := 12) (v := (.slice (some ⟨zg, 0, none⟩) m zc)) rfl (by kernel_rfl) (by kernel_rfl) (by kernel_rfl) (fun _ _ _ h => h) rfl (by assumption) (fun w' hS' => by go_simp) ?_
        simp only [Act.put, List.setIfInBounds_toArray, List.set_cons_zero, List.set_cons_succ]
        refine takeL (i := 4) (v := (.int .i64 (d : Int))) rfl (by kernel_rfl) (by kernel_rfl) (by kernel_rfl) (fun _ _ _ h => h) rfl (by assumption) (fun w' hS' => by go_simp) ?_
        simp only [Act.put, List.setIfInBounds_toArray, List.set_cons_zero, List.set_cons_succ]
        refine takeL (i := 11) (v := (.int .i64 (d : Int))) rfl (by kernel_rfl) (by kernel_rfl) (by kernel_rfl) (fun _ _ _ h => h) rfl (by assumption) (fun w' hS' => by go_simp) ?_
        simp only [Act.put, List.setIfInBounds_toArray, List.set_cons_zero, List.set_cons_succ]
        refine takeL (i := 2) (v := (.slice (some ⟨b, o, none⟩) n c)) rfl (by kernel_rfl) (by kernel_rfl) (by kernel_rfl) (fun _ _ _ h => h) rfl (by assumption) (fun w' _ => run_slice_to w' 88 23 _ _ (by rfl) Tryd.underlying88 32 (row_size row_root) b o n c n (by rfl) (by rfl) (by omega)) ?_
        simp only [Act.put, List.setIfInBounds_toArray, List.set_cons_zero, List.set_cons_succ]
        refine takeL (i := 9) (v := (.slice (some ⟨b, if c = n then o else o + n * 32, none⟩) (n - n) (c - n))) rfl (by kernel_rfl) (by kernel_rfl) (by kernel_rfl) (fun _ _ _ h => h) rfl (by assumption) (fun w' _ => run_slice_end w' 88 23 _ _ (by rfl) Tryd.underlying88 32 (row_size row_root) b o n c n (by rfl) (by rfl) (by omega)) ?_
        simp only [Act.put, List.setIfInBounds_toArray, List.set_cons_zero, List.set_cons_succ]
        refine oneL (i := 6) rfl (by kernel_rfl) rfl (wp_call 126 #[.slice (some ⟨b, o, none⟩) n c, .int .i64 (d : Int), .slice (some ⟨zg, 0, none⟩) m zc] (by go_simp) _ _ (hih1.out { W0 with drawn := W0.drawn + 1 } (by omega) (by rw [List.length_take, hn.out]; omega) (by have := hp'.out; omega) (RowR.take (hrow.out.later hB1 hlow.out) n) (fun b' o' e => by cases e; exact Nat.lt_of_lt_of_le (hlow.out b o rfl) hB1.size) (by omega) (hz.out.block (hB1.block zg hzl)) (by omega) (hT.out.below hsz hB1)) ?_)
        intro W1 hW1
        refine ⟨trivial, ?_⟩
        simp only [Act.put, List.setIfInBounds_toArray, List.set_cons_zero, List.set_cons_succ]
        have hB2 : Below w.heap.size w W1 := hB1.trans (hW1.mono (show w.heap.size ≤ W0.heap.size by omega))
        refine oneL (i := 13) rfl (by kernel_rfl) rfl (wp_call 126 #[.slice (some ⟨b, if c = n then o else o + n * 32, none⟩) (n - n) (c - n), .int .i64 (d : Int), .slice (some ⟨zg, 0, none⟩) m zc] (by go_simp) _ _ (hih2.out W1 (by omega) (by rw [List.length_drop, hn.out]) (by have := hp'.out; omega) (RowR.drop (hrow.out.later hB2 hlow.out) n _ (fun h => if_neg (by have := hn.out; omega))) (fun b' o' e => by cases e; exact Nat.lt_of_lt_of_le (hlow.out b o rfl) hB2.size) (by omega) (hz.out.block (hB2.block zg hzl)) (by omega) (hT.out.below hsz hB2)) ?_)
        intro W2 hW2
        refine ⟨trivial, ?_⟩
        simp only [Act.put, List.setIfInBounds_toArray, List.set_cons_zero, List.set_cons_succ]
        have hs1 : w.heap.size + 1 ≤ W1.heap.size := Nat.le_trans hs0 hW1.size
        have hB3 : Below w.heap.size w W2 := hB2.trans (hW2.mono (by omega))
        have hs2 : w.heap.size + 1 ≤ W2.heap.size := Nat.le_trans hs1 hW2.size
        refine oneL (i := 14) rfl (by kernel_rfl) rfl (wp_call 112 #[.agg (rootV (fullT d (leaf (rs.take n)))), .agg (rootV (fullT d (leaf (rs.drop n))))] (by go_simp) _ _ (rtwo_any _ _ (fullT_is d (leaf_is fun r hr => hrow.out.is r (List.mem_of_mem_take hr))) (fullT_is d (leaf_is fun r hr => hrow.out.is r (List.mem_of_mem_drop hr))) W2 (hT.out.below hsz hB3)) ?_)
        intro W3 hW3
        refine ⟨trivial, ?_⟩
        simp only [Act.put, List.setIfInBounds_toArray, List.set_cons_zero, List.set_cons_succ]
        have hB4 : Below w.heap.size w W3 := hB3.trans (hW3.mono (by omega))
        have hC4 : W3.heap[w.heap.size]? = some (.cells zr 23 (0, 0)) := (hW3.block _ (by omega)).trans ((hW2.block _ (by omega)).trans ((hW1.block _ (show w.heap.size < W0.heap.size by omega)).trans hC0))
        refine oneL (i := 15) rfl (by kernel_rfl) rfl (wp_store_row 23 _ _ rfl w.heap.size rfl _ rfl (fcells_one _ _ _) (by rw [row_size row_root]; simp [fcells]) zr 23 hC4 (by rw [zr_size]; simp [fcells]) (fun W4 hW4 hx4 => ⟨trivial, ?_⟩))
        refine wpAnyH_done (by kernel_rfl) ?_ _
        have hB5 := Lib.hid (hx4.below hB4 (Nat.le_refl _) (by have := hW3.size; omega))
        have hW5 := Lib.hid hW4
        clear hW4 hx4
        simp only [Exit.then]
        refine hK _ _ ?_
        clear hK K
        generalize (if c = n then o else o + n * 32) = q at *
        go_wp2
        refine ret_cell rfl w.heap.size 0 (fcells 32 (fun _ => .u8) (sha2 (fullT d (leaf (rs.take n))) (fullT d (leaf (rs.drop n))))) _ rfl (range_whole hW5.out) Tryd.underlying23 rfl (by rw [row_size row_root, fcells_length]) rfl ⟨?_, hB5.out⟩
        rw [hsp.out]
      · have hgt : decide ((n : Int) < (p : Int)) = false := by simp; omega
        go_wp2_with (
          ((with_reducible refine at_alloc 23 ?_); go_loud (refine wpList_plain rfl fun K hK => wp_alloc_row 23 rfl 6 rfl zr 32 info_zr (hK _ _ ?_)); clear hK K))
        have hsp := Lib.hid (tree_split d rs p (Or.inl hp'.out.symm))
        rename_i K hK
        have hih1 := Lib.hid (ih (rs.take p) p (some ⟨b, o, none⟩) c zg zc m)
        have hih2 := Lib.hid (ih (rs.drop p) (n - p) (some ⟨b, if c = p then o else o + p * 32, none⟩) (c - p) zg zc m)
        refine gen_world (fun W => W.heap[w.heap.size]? = some (.cells zr 23 (0, 0)) ∧ Below w.heap.size w W ∧ w.heap.size + 1 ≤ W.heap.size) ⟨heap_new _ _ _ _ rfl, (Below.refl _ _).alloc (Nat.le_refl _) _, by rw [World.size_alloc]; omega⟩ ?_
        rintro W0 ⟨hC0, hB0, hs0⟩
        refine wp_region_held (S := fun _ => True) (by kernel_rfl) ?_
        have hS : True := trivial
        have hB1 : Below w.heap.size w { W0 with drawn := W0.drawn + 1 } := hB0.drew
        refine takeL (i := 0) (v := (.slice (some ⟨b, o, none⟩) n c)) rfl (by kernel_rfl) (by kernel_rfl) (by kernel_rfl) (fun _ _ _ h => h) rfl (by assumption) (fun w' hS' => by go_simp) ?_
        simp only [Act.put, List.setIfInBounds_toArray, List.set_cons_zero, List.set_cons_succ]
        refine takeL (i := 1) (v := (.int .i64 (p : Int))) rfl (by kernel_rfl) (by kernel_rfl) (by kernel_rfl) (fun _ _ _ h => h) rfl (by assumption) (fun w' hS' => by go_simp) ?_
        simp only [Act.put, List.setIfInBounds_toArray, List.set_cons_zero, List.set_cons_succ]
        refine takeL (i := 3) (v := (.int .i64 D)) rfl (by kernel_rfl) (by kernel_rfl) (by kernel_rfl) (fun _ _ _ h => h) rfl (by assumption) (fun w' hS' => by go_simp) ?_
        simp only [Act.put, List.setIfInBounds_toArray, List.set_cons_zero, List.set_cons_succ]
        refine takeL (i := 5) (v := (.slice (some ⟨zg, 0, none⟩) m zc)) rfl (by kernel_rfl) (by kernel_rfl) (by kernel_rfl) (fun _ _ _ h => h) rfl (by assumption) (fun w' hS' => by go_simp) ?_
        simp only [Act.put, List.setIfInBounds_toArray, List.set_cons_zero, List.set_cons_succ]
        refine takeL (i := 7) (v := (.slice (some ⟨b, o, none⟩) n c)) rfl (by kernel_rfl) (by kernel_rfl) (by kernel_rfl) (fun _ _ _ h => h) rfl (by assumption) (fun w' hS' => by go_simp) ?_
        simp only [Act.put, List.setIfInBounds_toArray, List.set_cons_zero, List.set_cons_succ]
        refine takeL (i := 8) (v := (.int .i64 (p : Int))) rfl (by kernel_rfl) (by kernel_rfl) (by kernel_rfl) (fun _ _ _ h => h) rfl (by assumption) (fun w' hS' => by go_simp) ?_
        simp only [Act.put, List.setIfInBounds_toArray, List.set_cons_zero, List.set_cons_succ]
        refine takeL (i := 10) (v := (.int .i64 D)) rfl (by kernel_rfl) (by kernel_rfl) (by kernel_rfl) (fun _ _ _ h => h) rfl (by assumption) (fun w' hS' => by go_simp) ?_
        simp only [Act.put, List.setIfInBounds_toArray, List.set_cons_zero, List.set_cons_succ]
        refine takeL (i := 12) (v := (.slice (some ⟨zg, 0, none⟩) m zc)) rfl (by kernel_rfl) (by kernel_rfl) (by kernel_rfl) (fun _ _ _ h => h) rfl (by assumption) (fun w' hS' => by go_simp) ?_
        simp only [Act.put, List.setIfInBounds_toArray, List.set_cons_zero, List.set_cons_succ]
        refine takeL (i := 4) (v := (.int .i64 (d : Int))) rfl (by kernel_rfl) (by kernel_rfl) (by kernel_rfl) (fun _ _ _ h => h) rfl (by assumption) (fun w' hS' => by go_simp) ?_
        simp only [Act.put, List.setIfInBounds_toArray, List.set_cons_zero, List.set_cons_succ]
        refine takeL (i := 11) (v := (.int .i64 (d : Int))) rfl (by kernel_rfl) (by kernel_rfl) (by kernel_rfl) (fun _ _ _ h => h) rfl (by assumption) (fun w' hS' => by go_simp) ?_
        simp only [Act.put, List.setIfInBounds_toArray, List.set_cons_zero, List.set_cons_succ]
        refine takeL (i := 2) (v := (.slice (some ⟨b, o, none⟩) p c)) rfl (by kernel_rfl) (by kernel_rfl) (by kernel_rfl) (fun _ _ _ h => h) rfl (by assumption) (fun w' _ => run_slice_to w' 88 23 _ _ (by rfl) Tryd.underlying88 32 (row_size row_root) b o n c p (by rfl) (by rfl) (by omega)) ?_
        simp only [Act.put, List.setIfInBounds_toArray, List.set_cons_zero, List.set_cons_succ]
        refine takeL (i := 9) (v := (.slice (some ⟨b, if c = p then o else o + p * 32, none⟩) (n - p) (c - p))) rfl (by kernel_rfl) (by kernel_rfl) (by kernel_rfl) (fun _ _ _ h => h) rfl (by assumption) (fun w' _ => run_slice_end w' 88 23 _ _ (by rfl) Tryd.underlying88 32 (row_size row_root) b o n c p (by rfl) (by rfl) (by omega)) ?_
        simp only [Act.put, List.setIfInBounds_toArray, List.set_cons_zero, List.set_cons_succ]
        refine oneL (i := 6) rfl (by kernel_rfl) rfl (wp_call 126 #[.slice (some ⟨b, o, none⟩) p c, .int .i64 (d : Int), .slice (some ⟨zg, 0, none⟩) m zc] (by go_simp) _ _ (hih1.out { W0 with drawn := W0.drawn + 1 } (by omega) (by rw [List.length_take, hn.out]; omega) (by have := hp'.out; omega) (RowR.take (hrow.out.later hB1 hlow.out) p) (fun b' o' e => by cases e; exact Nat.lt_of_lt_of_le (hlow.out b o rfl) hB1.size) (by omega) (hz.out.block (hB1.block zg hzl)) (by omega) (hT.out.below hsz hB1)) ?_)
        intro W1 hW1
        refine ⟨trivial, ?_⟩
        simp only [Act.put, List.setIfInBounds_toArray, List.set_cons_zero, List.set_cons_succ]
        have hB2 : Below w.heap.size w W1 := hB1.trans (hW1.mono (show w.heap.size ≤ W0.heap.size by omega))
        refine oneL (i := 13) rfl (by kernel_rfl) rfl (wp_call 126 #[.slice (some ⟨b, if c = p then o else o + p * 32, none⟩) (n - p) (c - p), .int .i64 (d : Int), .slice (some ⟨zg, 0, none⟩) m zc] (by go_simp) _ _ (hih2.out W1 (by omega) (by rw [List.length_drop, hn.out]) (by have := hp'.out; omega) (RowR.drop (hrow.out.later hB2 hlow.out) p _ (fun h => if_neg (by have := hn.out; omega))) (fun b' o' e => by cases e; exact Nat.lt_of_lt_of_le (hlow.out b o rfl) hB2.size) (by omega) (hz.out.block (hB2.block zg hzl)) (by omega) (hT.out.below hsz hB2)) ?_)
        intro W2 hW2
        refine ⟨trivial, ?_⟩
        simp only [Act.put, List.setIfInBounds_toArray, List.set_cons_zero, List.set_cons_succ]
        have hs1 : w.heap.size + 1 ≤ W1.heap.size := Nat.le_trans hs0 hW1.size
        have hB3 : Below w.heap.size w W2 := hB2.trans (hW2.mono (by omega))
        have hs2 : w.heap.size + 1 ≤ W2.heap.size := Nat.le_trans hs1 hW2.size
        refine oneL (i := 14) rfl (by kernel_rfl) rfl (wp_call 112 #[.agg (rootV (fullT d (leaf (rs.take p)))), .agg (rootV (fullT d (leaf (rs.drop p))))] (by go_simp) _ _ (rtwo_any _ _ (fullT_is d (leaf_is fun r hr => hrow.out.is r (List.mem_of_mem_take hr))) (fullT_is d (leaf_is fun r hr => hrow.out.is r (List.mem_of_mem_drop hr))) W2 (hT.out.below hsz hB3)) ?_)
        intro W3 hW3
        refine ⟨trivial, ?_⟩
        simp only [Act.put, List.setIfInBounds_toArray, List.set_cons_zero, List.set_cons_succ]
        have hB4 : Below w.heap.size w W3 := hB3.trans (hW3.mono (by omega))
        have hC4 : W3.heap[w.heap.size]? = some (.cells zr 23 (0, 0)) := (hW3.block _ (by omega)).trans ((hW2.block _ (by omega)).trans ((hW1.block _ (show w.heap.size < W0.heap.size by omega)).trans hC0))
        refine oneL (i := 15) rfl (by kernel_rfl) rfl (wp_store_row 23 _ _ rfl w.heap.size rfl _ rfl (fcells_one _ _ _) (by rw [row_size row_root]; simp [fcells]) zr 23 hC4 (by rw [zr_size]; simp [fcells]) (fun W4 hW4 hx4 => ⟨trivial, ?_⟩))
        refine wpAnyH_done (by kernel_rfl) ?_ _
        have hB5 := Lib.hid (hx4.below hB4 (Nat.le_refl _) (by have := hW3.size; omega))
        have hW5 := Lib.hid hW4
        clear hW4 hx4
        simp only [Exit.then]
        refine hK _ _ ?_
        clear hK K
        generalize (if c = p then o else o + p * 32) = q at *
        go_wp2
        refine ret_cell rfl w.heap.size 0 (fcells 32 (fun _ => .u8) (sha2 (fullT d (leaf (rs.take p))) (fullT d (leaf (rs.drop p))))) _ rfl (range_whole hW5.out) Tryd.underlying23 rfl (by rw [row_size row_root, fcells_length]) rfl ⟨?_, hB5.out⟩
        rw [hsp.out]
set_option maxHeartbeats 8000000 in
theorem rTree_any (rs : List (Nat → Int)) (n m d : Nat) (va : Option Addr) (c : Nat) (w : World) (hn : rs.length = n) (hm : n ≤ m) (hd0 : Dep m d) (hd40 : d ≤ 40) (hrow0 : RowR w va rs) (hlow0 : ∀ b o, va = some ⟨b, o, none⟩ → b < w.heap.size) (hc : n ≤ c) (hT0 : Tabs w) :
    Calls Tryd.prog 94 #[.slice va n c, .int .i64 (m : Int)] w fun e w' => e = .returned (.tuple #[.agg (rootV (fullT d (leaf rs))), .int .i64 0]) ∧ Below w.heap.size w w' := by
  have hsz := hT0.size
  have hT := Lib.hid hT0
  have hrow := Lib.hid hrow0
  have hlow := Lib.hid hlow0
  have hd := Lib.hid hd0
  have hp40 : m ≤ 1099511627776 := Nat.le_trans hd0.1 (Nat.pow_le_pow_right (n := 2) (by decide) hd40)
  have hn' := Lib.hid hn
  clear hT0 hrow0 hlow0 hd0 hn
  have t1 : decide ((m : Int) < 0) = false := by simp
  have t2 : decide ((1099511627776 : Int) < (m : Int)) = false := by simp; omega
  have t3 : decide ((m : Int) < (n : Int)) = false := by simp; omega
  go_enter Tryd.func94, Tryd.ntmps94
  go_wp2_with (first
    | ((with_reducible refine at_alloc 23 ?_); go_loud (refine wpList_plain rfl fun K hK => wp_alloc_row 23 rfl 4 rfl zr 32 info_zr (hK _ _ ?_)); clear hK K
       have hB0 := Lib.hid ((Below.refl w.heap.size w).alloc (Nat.le_refl _) (.cells zr 23))
       have hC0 := Lib.hid (heap_new w zr 23 w.heap.size rfl)
       have hz := Lib.hid (zeros_any d _ (hT.out.below hsz hB0.out) hd40))
    | ((with_reducible refine (depth_any m d _ hd.out hd40).mono ?_)
       rintro e W ⟨rfl, rfl⟩)
    | ((with_reducible refine hz.out.mono ?_)
       rintro e W ⟨⟨zva, zc, rfl, hzO⟩, hzB⟩
       obtain ⟨zg, zcap, ze, zge, zR⟩ := roots_of_own hzO (by rw [zerosR_length]; omega)
       rw [zerosR_length] at ze zR
       obtain ⟨rfl, rfl⟩ : zva = some ⟨zg, 0, none⟩ ∧ zc = zcap := by injection ze with e1 e2 e3; exact ⟨e1, e3⟩
       have hzB' := Lib.hid hzB
       have hB1 := Lib.hid (hB0.out.trans (hzB.mono (by rw [World.size_alloc]; omega)))
       have hC1 := Lib.hid ((hzB.block w.heap.size (by rw [World.size_alloc]; omega)).trans hC0.out)
       have ht := Lib.hid (rtree_any d rs n va c zg zc (d + 1) W hd40 hn'.out (Nat.le_trans hm hd.out.1) (hrow.out.later hB1.out hlow.out) (fun b o e => Nat.lt_of_lt_of_le (hlow.out b o e) hB1.out.size) hc (zR.congr fun i hi => (zerosR_leaf (d + 1) i hi).symm) (by omega) (hT.out.below hsz hB1.out))
       clear hzO hzB ze zR hz hzB' hB0 hC0)
    | ((with_reducible refine ht.out.mono ?_)
       rintro e W2 ⟨rfl, hB2⟩
       have hB3 := Lib.hid (hB1.out.trans (hB2.mono hB1.out.size))
       have hC3 := Lib.hid ((hB2.block w.heap.size (block_lt hC1.out)).trans hC1.out)
       clear hB2 ht)
    | ((with_reducible refine at_store 23 ?_); go_loud (refine wpList_store_row_gen (w0 := w) (n0 := w.heap.size) 23 _ _ rfl rfl w.heap.size rfl _ rfl (fcells_one _ _ _) (by rw [row_size row_root]; simp [fcells]) _ 23 hC3.out (by rw [zr_size]; simp [fcells]) (by omega) hB3.out (fun W9 hW9 hBW _ => ?_))))
  exact ret_mid_tmp rfl w.heap.size 0 (fcells 32 (fun _ => .u8) (fullT d (leaf rs))) _ rfl hW9 Tryd.underlying23 rfl (by rw [row_size row_root, fcells_length]) rfl ⟨rfl, hBW⟩
set_option maxHeartbeats 8000000 in
theorem must_any (rs : List (Nat → Int)) (n m d : Nat) (va : Option Addr) (c : Nat) (w : World) (hn : rs.length = n) (hm : n ≤ m) (hd : Dep m d) (hd40 : d ≤ 40) (hrow0 : RowR w va rs) (hlow0 : ∀ b o, va = some ⟨b, o, none⟩ → b < w.heap.size) (hc : n ≤ c) (hT0 : Tabs w) :
    Calls Tryd.prog 47 #[.slice va n c, .int .i64 (m : Int)] w fun e w' => e = .returned (.agg (rootV (fullT d (leaf rs)))) ∧ Below w.heap.size w w' := by
  have hsz := hT0.size
  have hB0 := Lib.hid ((Below.refl w.heap.size w).alloc (Nat.le_refl _) (.cells zr 23))
  have hC0 := Lib.hid (heap_new w zr 23 w.heap.size rfl)
  have ht := Lib.hid (rTree_any rs n m d va c (w.alloc (.cells zr 23)) hn hm hd hd40 (hrow0.later hB0.out hlow0) (fun b o e => Nat.lt_of_lt_of_le (hlow0 b o e) hB0.out.size) hc (hT0.below hsz hB0.out))
  clear hT0 hrow0 hlow0 hd hn
  go_enter Tryd.func47, Tryd.ntmps47
  go_wp2_with (first
    | ((with_reducible refine at_alloc 23 ?_); go_loud (refine wpList_plain rfl fun K hK => wp_alloc_row 23 rfl 4 rfl zr 32 info_zr (hK _ _ ?_)); clear hK K)
    | ((with_reducible refine ht.out.mono ?_)
       rintro e W ⟨rfl, hB1⟩
       have hB2 := Lib.hid (hB0.out.trans (hB1.mono hB0.out.size))
       have hC2 := Lib.hid ((hB1.block w.heap.size (block_lt hC0.out)).trans hC0.out)
       have hs2 := Nat.lt_of_lt_of_le (block_lt hC0.out) hB1.size
       clear hB1)
    | ((with_reducible refine at_alloc 23 ?_); go_loud (refine wpList_alloc_store rfl rfl 23 5 _ rfl rfl rfl (rootV (fullT d (leaf rs))) rfl rfl (zeroOf Tryd.prog 23) (row_zero row_root).1 (row_zero row_root).2 (fcells_one _ _ _) ?_))
    | ((with_reducible refine at_load 23 ?_); go_loud (refine wpList_value (by rfl) _ (run_load_box _ 23 _ (by rfl) W.heap.size (by rfl) _ _ (0, 0) _ (heap_new W (rootV (fullT d (leaf rs))) 23 W.heap.size rfl) Tryd.underlying23 rfl (by rw [row_size row_root]; simp [fcells])) ?_))
    | ((with_reducible refine at_store 23 ?_); go_loud (refine wpList_store_row_gen (w0 := w) (n0 := w.heap.size) 23 _ _ rfl rfl w.heap.size rfl _ rfl (fcells_one _ _ _) (by rw [row_size row_root]; simp [fcells]) _ 23 (heap_past _ _ _ _ hC2.out) (by rw [zr_size]; simp [fcells]) (by omega) (hB2.out.alloc hB2.out.size _) (fun W9 hW9 hBW _ => ?_))))
  exact ret_cell rfl w.heap.size 0 (fcells 32 (fun _ => .u8) (fullT d (leaf rs))) _ rfl hW9 Tryd.underlying23 rfl (by rw [row_size row_root, fcells_length]) rfl ⟨rfl, hBW⟩
end Go.Proofs.YtihelknkcomjpaaDoor
namespace Go.Proofs.YtihelknkcomjpaaDoor
open Go.RowKit BigFrame
set_option maxRecDepth 100000
def chunksN (l : List Int) (q : Nat) : List (Nat → Int) := (List.range q).map (chunkL l)
theorem chunksN_length (l : List Int) (q : Nat) : (chunksN l q).length = q := by simp [chunksN]
theorem chunksN_succ (l : List Int) (q : Nat) : chunksN l (q + 1) = chunksN l q ++ [chunkL l q] := by simp [chunksN, List.range_succ]
/-- A root under way: its first k bytes are those of chunk q. -/
def PartI (n q k : Nat) (l : List Int) (wr : World) : Prop :=
  ∃ O : Array Value, wr.heap[n]? = some (.cells O 23 (0, 0)) ∧ O.size = 32 ∧ ∀ j, j < 32 → O[j]? = some (.int .u8 (if j < k then l.getD (32 * q + j) 0 else 0))
theorem PartI.start (n q : Nat) (l : List Int) (w : World) (h : w.heap[n]? = some (.cells zr 23 (0, 0))) : PartI n q 0 l w := by
  refine ⟨_, h, rfl, fun j hj => ?_⟩
  rw [if_neg (by omega)]
  show (List.replicate 32 (Value.int .u8 0)).toArray[j]? = _
  rw [List.getElem?_toArray, List.getElem?_replicate, if_pos hj]
theorem PartI.step {n q k : Nat} {l : List Int} {O : Array Value} (h : ∀ j, j < 32 → O[j]? = some (.int .u8 (if j < k then l.getD (32 * q + j) 0 else 0))) (hs : O.size = 32) (hk : k < 32) {W : World} (hC : W.heap[n]? = some (.cells (O.setIfInBounds k (.int .u8 (l.getD (32 * q + k) 0))) 23 (0, 0))) : PartI n q (k + 1) l W := by
  refine ⟨_, hC, by simp [hs], fun j hj => ?_⟩
  by_cases e : k = j
  · subst e
    rw [if_pos (by omega)]
    simp [hs, hk]
  · rw [Array.getElem?_setIfInBounds_ne e, h j hj]
    by_cases c : j < k
    · rw [if_pos c, if_pos (by omega)]
    · rw [if_neg c, if_neg (by omega)]
theorem PartI.done {n q k : Nat} {l : List Int} {W : World} (h : PartI n q k l W) (hk : k = 32 ∨ l.length ≤ 32 * q + k) : W.heap[n]? = some (.cells (rootV (chunkL l q)) 23 (0, 0)) := by
  obtain ⟨O, h1, h2, h3⟩ := h
  have e : O = rootV (chunkL l q) := by
    refine cells_eq (kd := fun _ => .u8) h2 fun j hj => ?_
    rw [h3 j hj]
    unfold chunkL
    rw [if_pos hj]
    by_cases c : j < k
    · rw [if_pos c]; rfl
    · rw [if_neg c, List.getD, List.getElem?_eq_none (by omega)]; rfl
  rw [← e]
  exact h1
set_option maxHeartbeats 8000000 in
theorem rpack_any (l : List Int) (va : Option Addr) (c : Nat) (w : World) (hl : Row w va .u8 l) (hlow : ∀ b o, va = some ⟨b, o, none⟩ → b < w.heap.size) (hlen : l.length ≤ 70368744177) :
    Calls Tryd.prog 71 #[.slice va l.length c] w fun e w' => (∃ va' c', e = .returned (.slice va' (chunks l).length c') ∧ OwnR w.heap.size (.slice va' (chunks l).length c') (chunks l) w') ∧ Below w.heap.size w w' := by
  have hl' := Lib.hid hl
  have hlow' := Lib.hid hlow
  clear hl hlow
  generalize hL : l.length = L at *
  have hL' := Lib.hid hL
  clear hL
  obtain ⟨N, hN⟩ : ∃ N, (L + 31) / 32 = N := ⟨_, rfl⟩
  have hN' := Lib.hid hN
  clear hN
  have hBl := Lib.hid (fun W (h : Below w.heap.size w W) => hl'.out.later h)
  go_enter Tryd.func71, Tryd.ntmps71
  go_wp2
  generalize hn0 : w.heap.size = n0 at *
  have hn0' := Lib.hid hn0
  clear hn0
  go_loopw [3, 4] (fun v i wr => ∃ q : Nat, q ≤ N ∧ i = .int .i64 ((32 * q : Nat) : Int) ∧ (∃ va' c', v = .slice va' q c') ∧ OwnR n0 v (chunksN l q) wr ∧ Below n0 w wr) (fun _ i _ => 32 * N - (intOf i).toNat)
  case atStart => exact ⟨0, by omega, rfl, ⟨none, 0, rfl⟩, ⟨rfl, Or.inl ⟨rfl, rfl⟩⟩, Below.refl _ _⟩
  case round =>
    obtain ⟨q, hq, rfl, ⟨va', c', rfl⟩, hO, hB⟩ := hrel
    have hO' := Lib.hid hO
    clear hO
    by_cases hlt : q < N
    · have hqL : 32 * q < L := by have := hN'.out; omega
      have t1 : decide (((32 * q : Nat) : Int) < (L : Int)) = true := by simp; omega
      have hw32 : IntKind.i64.wrap (((32 * q : Nat) : Int) + 32) = ((32 * (q + 1) : Nat) : Int) := by rw [IntKind.wrap_i64]; omega
      obtain ⟨bb, bo, rfl, _⟩ := hl'.out.cell 0 (by rw [hL'.out]; omega)
      have hbb := hlow'.out bb bo rfl
      generalize hq32 : 32 * q = Q at *
      have hq32' := Lib.hid hq32
      clear hq32
      go_wp2_with (
        ((with_reducible refine at_alloc 23 ?_); go_loud (refine wpList_plain rfl fun K hK => wp_alloc_row 23 rfl 5 rfl zr 32 info_zr (hK _ _ ?_)); clear hK K))
      have hsw := hB.size
      refine gen_world (fun W => PartI wr.heap.size q 0 l W ∧ OwnR n0 (.slice va' q c') (chunksN l q) W ∧ Below n0 w W ∧ Below wr.heap.size wr W) ⟨PartI.start _ _ _ _ (heap_new _ _ _ _ rfl), own_later hO'.out ((Below.refl _ _).alloc (Nat.le_refl _) _), hB.alloc (by have := hn0'.out; omega) _, (Below.refl _ _).alloc (Nat.le_refl _) _⟩ ?_
      have hsn : n0 ≤ wr.heap.size := by have := hn0'.out; omega
      have hlt2 := hO'.out.lt
      generalize wr.heap.size = n1 at *
      clear hB hO'
      rintro W1 ⟨hP1, hO1, hB1, hX1⟩
      have hP1' := Lib.hid hP1
      have hO1' := Lib.hid hO1
      clear hP1 hO1
      rename_i K hK
      go_loopw [6] (fun i wr2 => ∃ k : Nat, k ≤ 32 ∧ Q + k ≤ L ∧ i = .int .i64 (k : Int) ∧ PartI n1 q k l wr2 ∧ OwnR n0 (.slice va' q c') (chunksN l q) wr2 ∧ Below n0 w wr2) (fun i _ => 32 - (intOf i).toNat)
      case atStart => exact ⟨0, by omega, by omega, rfl, hP1'.out, hO1'.out, hB1⟩
      case round =>
        obtain ⟨k, hk, hkL, rfl, hP, hO, hB⟩ := hrel
        have hO' := Lib.hid hO
        clear hO hP1' hO1' hB1 hX1
        have hw1 : IntKind.i64.wrap ((Q : Int) + (k : Int)) = ((Q + k : Nat) : Int) := by rw [IntKind.wrap_i64]; omega
        by_cases h1 : k < 32
        · have t2 : decide ((k : Int) < 32) = true := by simp; omega
          have lj : (k : Int) < 32 := by omega
          by_cases h2 : Q + k < L
          · have t3 : decide (((Q + k : Nat) : Int) < (L : Int)) = true := by simp; omega
            obtain ⟨O, hC, hOs, hOc⟩ := hP
            have hC' := Lib.hid hC
            have hOc' := Lib.hid hOc
            have hB' := Lib.hid hB
            clear hC hOc hB
            have hcell : wr.cell? ⟨bb, bo + (Q + k), none⟩ = some (.int .u8 (l.getD (Q + k) 0)) := by
              obtain ⟨b', o', e, h⟩ := (hBl.out wr hB'.out).cell (Q + k) (by rw [hL'.out]; exact h2)
              cases e
              exact h
            have hcell' := Lib.hid hcell
            clear hcell
            have hyv := Lib.hid (show l.getD (32 * q + k) 0 = l.getD (Q + k) 0 by rw [hq32'.out])
            generalize hy : l.getD (Q + k) 0 = y at *
            clear hy
            generalize hqk : Q + k = qk at *
            have hqk' := Lib.hid hqk
            clear hqk
            go_wp2_with (first
              | ((with_reducible refine at_iaddr 34 ?_); go_loud (refine wpList_value (by rfl) _ (run_index_slice _ 34 5 _ _ rfl Tryd.underlying34 1 sz_u8 bb bo L c rfl .i64 qk rfl h2 (bo + qk) (by omega)) ?_))
              | ((with_reducible refine at_load 5 ?_); go_loud (refine wpList_value (by rfl) _ (run_load_cell _ 5 _ (by rfl) ⟨bb, bo + qk, none⟩ (by rfl) (.int .u8 y) hcell'.out _ Tryd.underlying5 rfl) ?_))
              | ((with_reducible refine at_store 5 ?_); go_loud (refine wpList_store_apart 5 _ _ rfl rfl n1 k rfl .u8 y rfl (by kernel_rfl) O 23 hC'.out (by omega) (fun W5 hC5 hx5 => ?_))))
            refine ⟨⟨k + 1, by omega, by have := hqk'.out; omega, by go_num, PartI.step hOc'.out hOs h1 (by rw [hyv.out]; exact hC5), own_apart2 hO'.out hx5 (fun e => by have := (hlt2 _ e).2; omega), hx5.below hB'.out hsn (by have := block_lt hC'.out; omega)⟩, by simp [intOf]; omega⟩
          · have t3 : decide (((Q + k : Nat) : Int) < (L : Int)) = false := by simp; omega
            have hD := Lib.hid (hP.done (Or.inr (by rw [hL'.out, hq32'.out]; omega)))
            clear hP
            have hcs := Lib.hid (chunksN_succ l q)
            have hcn := Lib.hid (chunksN_length l q)
            have hq3 := hq32'.out
            clear h1
            go_wp2_with (first
              | ((with_reducible refine at_load 23 ?_); go_loud (refine wpList_value (by rfl) _ (run_load_box _ 23 _ (by rfl) n1 (by rfl) _ _ (0, 0) _ hD.out Tryd.underlying23 rfl (by rw [row_size row_root]; simp [fcells])) ?_))
              | ((with_reducible refine at_bslice 88 ?_); go_loud (refine wpList_plain rfl fun K hK => wp_ran _ (run_bslice_root _ _ rfl (chunkL l q) (by rfl)) (hK _ _ ?_)); clear hK K
                 have hO4 : OwnR n0 (.slice va' q c') (chunksN l q) (wr.alloc (.cells (rootV (chunkL l q)) 23)) := own_later hO'.out ((Below.refl _ _).alloc (Nat.le_refl _) _)
                 unfold OwnR at hO4
                 rw [hcn.out] at hO4
                 have hO5 := Lib.hid hO4
                 have hbs : n0 ≤ wr.heap.size := by have := hB.size; have := hn0'.out; omega
                 clear hO4)
              | ((with_reducible refine at_call_builtin .append ?_); go_loud (refine wpList_plain rfl fun K hK => wp_appS (.tmp 33) (.tmp 35) 88 23 rfl Tryd.underlying88 (.agg (rep 32)) 32 32 info_root rfl (by decide) n0 q _ (rcells (chunksN l q)) rfl hO5.out ⟨wr.heap.size, 0, none⟩ 1 1 rfl (fcells 32 (fun _ => .u8) (chunkL l q)) (by rw [fcells_length]) (range_whole (heap_new _ _ _ _ rfl)) rfl fcells_mem (by omega) (by omega) (Nat.le_trans hbs (by simp)) (Nat.le_refl _) (hB.alloc hbs _) (fun v1 W2 h1 b1 z1 o1 q1 => hK _ _ ?_)); clear hK K
                 rw [show rcells (chunksN l q) ++ fcells 32 (fun _ => .u8) (chunkL l q) = rcells (chunksN l (q + 1)) by rw [hcs.out, rcells_append, rcells_one]] at h1
                 obtain ⟨va1, c1, e1, hva1⟩ := own_form h1
                 clear hva1
                 subst e1
                 have h1' := Lib.hid h1
                 have b1' := Lib.hid b1
                 clear o1 q1 h1 b1))
            refine ⟨⟨q + 1, by omega, by go_num, ⟨_, _, rfl⟩, ?_, b1'.out⟩, by simp [intOf]; omega⟩
            unfold OwnR
            rw [chunksN_length]
            exact h1'.out
        · have t2 : decide ((k : Int) < 32) = false := by simp; omega
          have hD := Lib.hid (hP.done (Or.inl (by omega)))
          clear hP
          have hcs := Lib.hid (chunksN_succ l q)
          have hcn := Lib.hid (chunksN_length l q)
          have hq3 := hq32'.out
          clear h1
          go_wp2_with (first
            | ((with_reducible refine at_load 23 ?_); go_loud (refine wpList_value (by rfl) _ (run_load_box _ 23 _ (by rfl) n1 (by rfl) _ _ (0, 0) _ hD.out Tryd.underlying23 rfl (by rw [row_size row_root]; simp [fcells])) ?_))
            | ((with_reducible refine at_bslice 88 ?_); go_loud (refine wpList_plain rfl fun K hK => wp_ran _ (run_bslice_root _ _ rfl (chunkL l q) (by rfl)) (hK _ _ ?_)); clear hK K
               have hO4 : OwnR n0 (.slice va' q c') (chunksN l q) (wr.alloc (.cells (rootV (chunkL l q)) 23)) := own_later hO'.out ((Below.refl _ _).alloc (Nat.le_refl _) _)
               unfold OwnR at hO4
               rw [hcn.out] at hO4
               have hO5 := Lib.hid hO4
               have hbs : n0 ≤ wr.heap.size := by have := hB.size; have := hn0'.out; omega
               clear hO4)
            | ((with_reducible refine at_call_builtin .append ?_); go_loud (refine wpList_plain rfl fun K hK => wp_appS (.tmp 33) (.tmp 35) 88 23 rfl Tryd.underlying88 (.agg (rep 32)) 32 32 info_root rfl (by decide) n0 q _ (rcells (chunksN l q)) rfl hO5.out ⟨wr.heap.size, 0, none⟩ 1 1 rfl (fcells 32 (fun _ => .u8) (chunkL l q)) (by rw [fcells_length]) (range_whole (heap_new _ _ _ _ rfl)) rfl fcells_mem (by omega) (by omega) (Nat.le_trans hbs (by simp)) (Nat.le_refl _) (hB.alloc hbs _) (fun v1 W2 h1 b1 z1 o1 q1 => hK _ _ ?_)); clear hK K
               rw [show rcells (chunksN l q) ++ fcells 32 (fun _ => .u8) (chunkL l q) = rcells (chunksN l (q + 1)) by rw [hcs.out, rcells_append, rcells_one]] at h1
               obtain ⟨va1, c1, e1, hva1⟩ := own_form h1
               clear hva1
               subst e1
               have h1' := Lib.hid h1
               have b1' := Lib.hid b1
               clear o1 q1 h1 b1))
          refine ⟨⟨q + 1, by omega, by go_num, ⟨_, _, rfl⟩, ?_, b1'.out⟩, by simp [intOf]; omega⟩
          unfold OwnR
          rw [chunksN_length]
          exact h1'.out
    · have e : q = N := by omega
      subst e
      have t1 : decide (((32 * q : Nat) : Int) < (L : Int)) = false := by simp; have := hN'.out; omega
      have hge : ¬ (32 * q < L) := by have := hN'.out; omega
      generalize 32 * q = Q at *
      have hq : (chunks l).length = q := by rw [chunks_length, hL'.out, hN'.out]
      have hcl : chunksN l q = chunks l := by unfold chunksN chunks; rw [hL'.out, hN'.out]
      go_wp2
      rw [hn0'.out]
      refine ret_t1 rfl (.slice va' q c') rfl rfl ⟨⟨va', c', by rw [hq], ?_⟩, hB⟩
      rw [hq, ← hcl]
      exact hO'.out
set_option maxHeartbeats 4000000 in
theorem chunk_any (l : List Int) (va : Option Addr) (c : Nat) (w : World) (hl : Row w va .u8 l) (hlow : ∀ b o, va = some ⟨b, o, none⟩ → b < w.heap.size) (h1 : 1 ≤ l.length) (h2 : l.length ≤ 32) (hT0 : Tabs w) :
    Calls Tryd.prog 95 #[.slice va l.length c] w fun e w' => e = .returned (.agg (rootV (chunkL l 0))) ∧ Below w.heap.size w w' := by
  have hsz := hT0.size
  have hB0 := Lib.hid ((Below.refl w.heap.size w).alloc (Nat.le_refl _) (.cells zr 23))
  have hC0 := Lib.hid (heap_new w zr 23 w.heap.size rfl)
  have hp := Lib.hid (rpack_any l va c (w.alloc (.cells zr 23)) (hl.later hB0.out) (fun b o e => Nat.lt_of_lt_of_le (hlow b o e) hB0.out.size) (by omega))
  have hT := Lib.hid hT0
  have hci := Lib.hid (chunks_is hl.ok)
  have hn1 : (chunks l).length = 1 := by rw [chunks_length]; omega
  have hlf : leaf (chunks l) 0 = chunkL l 0 := chunks_leaf l 0 (by omega)
  rw [← hlf]
  clear hT0 hl hlow hlf
  generalize chunks l = cs at *
  have hn' := Lib.hid hn1
  rw [hn1] at hp
  clear hn1
  go_enter Tryd.func95, Tryd.ntmps95
  go_wp2_with (first
    | ((with_reducible refine at_alloc 23 ?_); go_loud (refine wpList_plain rfl fun K hK => wp_alloc_row 23 rfl 2 rfl zr 32 info_zr (hK _ _ ?_)); clear hK K)
    | ((with_reducible refine hp.out.mono ?_)
       rintro e W ⟨⟨va', c', rfl, hO⟩, hB1⟩
       obtain ⟨g, cap, e, hg, hR⟩ := roots_of_own hO (by have := hn'.out; omega)
       have hB2 := Lib.hid (hB0.out.trans (hB1.mono hB0.out.size))
       have hC2 := Lib.hid ((hB1.block w.heap.size (block_lt hC0.out)).trans hC0.out)
       have hcc := hR.choose_spec.2.2.1
       rw [hn'.out] at e hR hcc
       obtain ⟨rfl, rfl⟩ : va' = some ⟨g, 0, none⟩ ∧ c' = cap := by injection e with e1 e2 e3; exact ⟨e1, e3⟩
       have hm := Lib.hid (show Calls Tryd.prog 47 #[.slice (some ⟨g, 0, none⟩) 1 c', .int .i64 1] W _ from must_any cs 1 1 0 (some ⟨g, 0, none⟩) c' W hn'.out (by omega) ⟨by decide, Or.inl rfl⟩ (by omega) (hR.row cs (by have := hn'.out; omega) (fun _ _ => rfl) hci.out) (fun b o e => by cases e; exact hR.lt) hcc (hT.out.below hsz hB2.out))
       clear hO e hR hB1 hp)
    | ((with_reducible refine hm.out.mono ?_)
       rintro e W2 ⟨rfl, hB3⟩
       have hB4 := Lib.hid (hB2.out.trans (hB3.mono hB2.out.size))
       have hC4 := Lib.hid ((hB3.block w.heap.size (block_lt hC2.out)).trans hC2.out)
       clear hB3 hm)
    | ((with_reducible refine at_store 23 ?_); go_loud (refine wpList_store_row_gen (w0 := w) (n0 := w.heap.size) 23 _ _ rfl rfl w.heap.size rfl _ rfl (fcells_one _ _ _) (by rw [row_size row_root]; simp [fcells]) _ 23 hC4.out (by rw [zr_size]; simp [fcells]) (by omega) hB4.out (fun W9 hW9 hBW _ => ?_))))
  exact ret_cell rfl w.heap.size 0 (fcells 32 (fun _ => .u8) (leaf cs 0)) _ rfl hW9 Tryd.underlying23 rfl (by rw [row_size row_root, fcells_length]) rfl ⟨rfl, hBW⟩
end Go.Proofs.YtihelknkcomjpaaDoor
