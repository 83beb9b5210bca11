/- merkle of the program: depth, zeros. -/
/- merkle of the program: up, the level above. -/
import Derived.Test.YtihelknkcomjpaaDoorJRef5c
import Derived.Test.YtihelknkcomjpaaDoorJHash3
import Derived.Test.YtihelknkcomjpaaDoorKShelf
set_option linter.unusedVariables false
set_option linter.unusedSimpArgs false
set_option linter.unnecessarySimpa false
namespace Go.Proofs.YtihelknkcomjpaaDoor
open Go.RowKit BigFrame
set_option maxRecDepth 100000
theorem bitLenAux_dep : ∀ (f d x : Nat), x < 2 ^ f → x < 2 ^ d → (d = 0 ∨ 2 ^ (d - 1) ≤ x) → Lib.bitLenAux f x = d
  | 0, d, x, h0, h1, h2 => by
    have : x = 0 := by simpa using h0
    subst this
    rcases h2 with h2 | h2
    · exact h2.symm
    · have := Nat.pow_pos (n := d - 1) (show 0 < 2 by decide)
      omega
  | f + 1, d, x, h0, h1, h2 => by
    unfold Lib.bitLenAux
    by_cases hx : x = 0
    · rw [if_pos hx]
      rcases h2 with h2 | h2
      · exact h2.symm
      · have := Nat.pow_pos (n := d - 1) (show 0 < 2 by decide)
        omega
    · rw [if_neg hx]
      obtain ⟨e, rfl⟩ : ∃ e, d = e + 1 := ⟨d - 1, by
        have : d ≠ 0 := fun e => by subst e; simp at h1; omega
        omega⟩
      have h3 : 2 ^ e ≤ x := by
        rcases h2 with h2 | h2
        · omega
        · exact h2
      have p1 := Nat.pow_succ 2 f
      have p2 := Nat.pow_succ 2 e
      rw [bitLenAux_dep f e (x / 2) (by omega) (by omega) (by
        rcases Nat.eq_zero_or_pos e with h | h
        · exact Or.inl h
        · right
          obtain ⟨q, rfl⟩ : ∃ q, e = q + 1 := ⟨e - 1, by omega⟩
          have p3 := Nat.pow_succ 2 q
          simp only [Nat.add_sub_cancel]
          omega)]
      omega
theorem bitLen_dep {m d : Nat} (hd : Dep m d) (hm : 2 ≤ m) (h40 : d ≤ 40) : Lib.bitLen (m - 1) = d := by
  have hp : 2 ^ d ≤ 2 ^ 40 := Nat.pow_le_pow_right (by decide) h40
  have h1 := hd.1
  refine bitLenAux_dep 64 d (m - 1) (by omega) (by omega) ?_
  rcases hd.2 with h | h
  · exact Or.inl h
  · right; omega
set_option maxHeartbeats 4000000 in
theorem mdepth_any (m d : Nat) (w : World) (hd : Dep m d) (hd40 : d ≤ 40) :
    Calls Tryd.prog 129 #[.int .i64 (m : Int)] w fun e w' => e = .returned (.int .i64 (d : Int)) ∧ w = w' := by
  have hp : 2 ^ d ≤ 2 ^ 40 := Nat.pow_le_pow_right (by decide) hd40
  have hm40 : m ≤ 1099511627776 := Nat.le_trans hd.1 hp
  clear hp
  by_cases h2 : m < 2
  · have h0 : d = 0 := by
      rcases hd.2 with h | h
      · exact h
      · have := Nat.pow_pos (n := d - 1) (show 0 < 2 by decide)
        have h3 : 2 ^ (d - 1) < 2 := by omega
        by_cases h4 : d - 1 = 0
        · exfalso
          rw [h4] at h
          simp at h
          omega
        · have h5 : 2 ^ 1 ≤ 2 ^ (d - 1) := Nat.pow_le_pow_right (by decide) (by omega)
          omega
    subst h0
    have l2 : ((m : Int) < 2) := by omega
    clear hd hd40
    go_enter Tryd.func129, Tryd.ntmps129
    go_wp2
    exact ret_t1 rfl _ rfl rfl ⟨rfl, rfl⟩
  · have l2 : ¬ ((m : Int) < 2) := by omega
    have l3 : (2 : Int) ≤ (m : Int) := by omega
    have hb := bitLen_dep hd (by omega) hd40
    have hw1 : IntKind.i64.wrap ((m : Int) - 1) = ((m - 1 : Nat) : Int) := by rw [IntKind.wrap_i64]; omega
    have hw2 : IntKind.u64.wrap ((m - 1 : Nat) : Int) = ((m - 1 : Nat) : Int) := by rw [IntKind.wrap_u64]; omega
    have hc := Lib.hid (Tryd.bits_Len ((m - 1 : Nat) : Int) w (by omega) (by omega))
    rw [Int.toNat_natCast, hb] at hc
    clear hd hb
    generalize hq : ((m - 1 : Nat) : Int) = q at *
    clear hq
    go_enter Tryd.func129, Tryd.ntmps129
    go_wp2_with (
      ((with_reducible refine hc.out.mono ?_)
       rintro e W ⟨rfl, rfl⟩
       clear hc))
    exact ret_t1 rfl _ rfl rfl ⟨rfl, rfl⟩
set_option maxHeartbeats 8000000 in
theorem mzeros_any (d : Nat) (w : World) (hT0 : Tabs w) (hd40 : d ≤ 40) :
    Calls Tryd.prog 130 #[.int .i64 (d : Int)] w fun e w' => e = .returned (.slice (some ⟨w.heap.size, 0, none⟩) (d + 1) (d + 1)) ∧ RootsAt w.heap.size (d + 1) (d + 1) (fun k => fullT k fun _ => zeroR) w' ∧ Below w.heap.size w w' := by
  have hT := Lib.hid hT0
  have hsz := hT0.size
  clear hT0
  have hw1 : IntKind.i64.wrap ((d : Int) + 1) = ((d + 1 : Nat) : Int) := by rw [IntKind.wrap_i64]; omega
  go_enter Tryd.func130, Tryd.ntmps130
  go_wp2_with (
    ((with_reducible refine at_make 88 ?_); go_loud (refine wpList_plain rfl fun K hK => wp_ran _ (run_makeRoots _ _ _ rfl (d + 1) rfl rfl (by omega)) (hK _ _ ?_)); clear hK K))
  refine gen_world (fun W => RootsAt w.heap.size (d + 1) (d + 1) (fun _ => zeroR) W ∧ Below w.heap.size w W) ⟨made_roots w (d + 1), (Below.refl _ _).alloc (Nat.le_refl _) _⟩ ?_
  rintro W1 ⟨hR1, hB1⟩
  have hR1' := Lib.hid hR1
  have hTl := Lib.hid (fun W (h : Below w.heap.size w W) => hT.out.below hsz h)
  clear hR1 hT
  clear hw1
  go_loopw [9] (fun i wr => ∃ k : Nat, k ≤ d ∧ i = .int .i64 k ∧ RootsAt w.heap.size (d + 1) (d + 1) (fun j => if j ≤ k then fullT j fun _ => zeroR else zeroR) wr ∧ Below w.heap.size w wr) (fun i _ => d - (intOf i).toNat)
  case atStart => exact ⟨0, by omega, rfl, hR1'.out.congr (fun i _ => by
    by_cases h : i ≤ 0
    · have : i = 0 := by omega
      subst this
      rfl
    · rw [if_neg h]), hB1⟩
  case round =>
    obtain ⟨k, hk, rfl, hR2, hB2⟩ := hrel
    have hR2' := Lib.hid hR2
    clear hR2 hR1' hB1
    by_cases hlt : k < d
    · have hlt' : ((k : Int) < (d : Int)) := by omega
      have hw2 : IntKind.i64.wrap ((k : Int) + 1) = ((k + 1 : Nat) : Int) := by rw [IntKind.wrap_i64]; omega
      have hzi := fullT_is k (f := fun _ => zeroR) (fun _ => zeroR_is)
      go_wp2
      rename_i K hK
      refine wp_region_held (S := fun _ => True) (by kernel_rfl) ?_
      have hS : True := trivial
      have hB3 : Below w.heap.size w { wr with drawn := wr.drawn + 1 } := hB2.drew
      have ht3 := hTl.out _ hB3
      have hRa := Lib.hid (hR2'.out.range k (by omega))
      simp only [if_pos (Nat.le_refl k)] at hRa
      refine takeL (i := 0) (v := (.slice (some ⟨w.heap.size, 0, none⟩) (d + 1) (d + 1))) rfl (by kernel_rfl) (by kernel_rfl) (by kernel_rfl) (fun _ _ _ h => h) rfl (by assumption) (fun w' hS' => by go_simp) ?_
      simp only [Act.put, List.setIfInBounds_toArray, List.set_cons_zero, List.set_cons_succ]
      refine takeL (i := 1) (v := (.int .i64 (k : Int))) rfl (by kernel_rfl) (by kernel_rfl) (by kernel_rfl) (fun _ _ _ h => h) rfl (by assumption) (fun w' hS' => by go_simp) ?_
      simp only [Act.put, List.setIfInBounds_toArray, List.set_cons_zero, List.set_cons_succ]
      refine takeL (i := 3) (v := (.slice (some ⟨w.heap.size, 0, none⟩) (d + 1) (d + 1))) rfl (by kernel_rfl) (by kernel_rfl) (by kernel_rfl) (fun _ _ _ h => h) rfl (by assumption) (fun w' hS' => by go_simp) ?_
      simp only [Act.put, List.setIfInBounds_toArray, List.set_cons_zero, List.set_cons_succ]
      refine takeL (i := 4) (v := (.int .i64 (k : Int))) rfl (by kernel_rfl) (by kernel_rfl) (by kernel_rfl) (fun _ _ _ h => h) rfl (by assumption) (fun w' hS' => by go_simp) ?_
      simp only [Act.put, List.setIfInBounds_toArray, List.set_cons_zero, List.set_cons_succ]
      refine takeL (i := 7) (v := (.slice (some ⟨w.heap.size, 0, none⟩) (d + 1) (d + 1))) rfl (by kernel_rfl) (by kernel_rfl) (by kernel_rfl) (fun _ _ _ h => h) rfl (by assumption) (fun w' hS' => by go_simp) ?_
      simp only [Act.put, List.setIfInBounds_toArray, List.set_cons_zero, List.set_cons_succ]
      refine takeL (i := 8) (v := (.int .i64 (k : Int))) rfl (by kernel_rfl) (by kernel_rfl) (by kernel_rfl) (fun _ _ _ h => h) rfl (by assumption) (fun w' hS' => by go_simp) ?_
      simp only [Act.put, List.setIfInBounds_toArray, List.set_cons_zero, List.set_cons_succ]
      refine takeL (i := 2) (v := (.int .i64 ((k + 1 : Nat) : Int))) rfl (by kernel_rfl) (by kernel_rfl) (by kernel_rfl) (fun _ _ _ h => h) rfl (by assumption) (fun w' hS' => by go_simp) ?_
      simp only [Act.put, List.setIfInBounds_toArray, List.set_cons_zero, List.set_cons_succ]
      refine takeL (i := 5) (v := (.pointer (some ⟨w.heap.size, 32 * k, none⟩))) rfl (by kernel_rfl) (by kernel_rfl) (by kernel_rfl) (fun _ _ _ h => h) rfl (by assumption) (fun w' _ => run_index_slice w' 88 23 _ _ (by rfl) Tryd.underlying88 32 (row_size row_root) w.heap.size 0 (d + 1) (d + 1) (by rfl) .i64 k (by rfl) (by omega) _ (by omega)) ?_
      simp only [Act.put, List.setIfInBounds_toArray, List.set_cons_zero, List.set_cons_succ]
      refine takeL (i := 9) (v := (.pointer (some ⟨w.heap.size, 32 * k, none⟩))) rfl (by kernel_rfl) (by kernel_rfl) (by kernel_rfl) (fun _ _ _ h => h) rfl (by assumption) (fun w' _ => run_index_slice w' 88 23 _ _ (by rfl) Tryd.underlying88 32 (row_size row_root) w.heap.size 0 (d + 1) (d + 1) (by rfl) .i64 k (by rfl) (by omega) _ (by omega)) ?_
      simp only [Act.put, List.setIfInBounds_toArray, List.set_cons_zero, List.set_cons_succ]
      refine pairL (i := 6) (k := 10) (.agg (rootV (fullT k fun _ => zeroR))) (.agg (rootV (fullT k fun _ => zeroR))) (Wn := { wr with drawn := wr.drawn + 1 }) rfl rfl (by kernel_rfl) (by kernel_rfl) (by kernel_rfl) rfl rfl rfl rfl (run_load_rows _ 23 _ (by rfl) w.heap.size _ (by rfl) _ _ hRa.out Tryd.underlying23 rfl (by rw [row_size row_root, fcells_length])) (run_load_rows _ 23 _ (by rfl) w.heap.size _ (by rfl) _ _ hRa.out Tryd.underlying23 rfl (by rw [row_size row_root, fcells_length])) (run_load_rows _ 23 _ (by rfl) w.heap.size _ (by rfl) _ _ hRa.out Tryd.underlying23 rfl (by rw [row_size row_root, fcells_length])) (run_load_rows _ 23 _ (by rfl) w.heap.size _ (by rfl) _ _ hRa.out Tryd.underlying23 rfl (by rw [row_size row_root, fcells_length])) trivial trivial rfl rfl ?_
      simp only [Act.put, List.setIfInBounds_toArray, List.set_cons_zero, List.set_cons_succ]
      refine oneL (i := 11) rfl (by kernel_rfl) rfl (wp_call 88 #[.agg (rootV (fullT k fun _ => zeroR)), .agg (rootV (fullT k fun _ => zeroR))] (by go_simp) _ _ (two_any _ _ hzi hzi _ ht3) ?_)
      intro W4 hB4
      refine ⟨trivial, ?_⟩
      simp only [Act.put, List.setIfInBounds_toArray, List.set_cons_zero, List.set_cons_succ]
      refine takeL (i := 12) (v := (.pointer (some ⟨w.heap.size, 32 * (k + 1), none⟩))) rfl (by kernel_rfl) (by kernel_rfl) (by kernel_rfl) (fun _ _ _ h => h) rfl (by assumption) (fun w' _ => run_index_slice w' 88 23 _ _ (by rfl) Tryd.underlying88 32 (row_size row_root) w.heap.size 0 (d + 1) (d + 1) (by rfl) .i64 (k + 1) (by rfl) (by omega) _ (by omega)) ?_
      simp only [Act.put, List.setIfInBounds_toArray, List.set_cons_zero, List.set_cons_succ]
      refine oneL (i := 13) rfl (by kernel_rfl) rfl (wp_store_root _ _ rfl w.heap.size (d + 1) (d + 1) (k + 1) _ rfl (sha2 (fullT k fun _ => zeroR) (fullT k fun _ => zeroR)) rfl (hR2'.out.block (hB4.block w.heap.size hR2'.out.lt)) (by omega) (fun W5 hR5 hx5 => ⟨trivial, ?_⟩))
      refine wpAnyH_done (by kernel_rfl) ?_ _
      refine hK _ _ ?_
      clear hK K
      have hnw : w.heap.size ≤ wr.heap.size := Nat.le_of_lt hR2'.out.lt
      have hB5 : Below w.heap.size w W5 := hx5.below (hB3.trans (hB4.mono hnw)) (Nat.le_refl _) (Nat.le_trans hnw hB4.size)
      have hR6 := Lib.hid (hR5.congr (f' := fun j => if j ≤ k + 1 then fullT j fun _ => zeroR else zeroR) (fun i hi => by
        by_cases c1 : i = k + 1
        · subst c1
          simp only [if_true, if_pos (Nat.le_refl _)]
          rfl
        · rw [if_neg c1]
          by_cases c2 : i ≤ k
          · rw [if_pos c2, if_pos (by omega)]
          · rw [if_neg c2, if_neg (by omega)]))
      clear hR5 hx5 hRa hR2' hB4 hS
      go_wp2
      first
        | exact ⟨⟨k + 1, by omega, by go_num, hR6.out, hB5⟩, by simp [intOf]; omega⟩
        | (refine ⟨?_, by simp [intOf]; omega⟩
           (repeat apply Exists.intro)
           exact ⟨⟨k + 1, by omega, by go_num, hR6.out, hB5⟩, rfl⟩)
    · have e : k = d := by omega
      subst e
      have hR3 := Lib.hid (hR2'.out.congr (f' := fun j => fullT j fun _ => zeroR) (fun i hi => by rw [if_pos (by omega)]))
      go_wp2
      exact ret_t1 rfl _ rfl rfl ⟨rfl, hR3.out, hB2⟩
end Go.Proofs.YtihelknkcomjpaaDoor
namespace Go.Proofs.YtihelknkcomjpaaDoor
open Go.RowKit BigFrame
set_option maxRecDepth 100000
theorem run_slice_full {P : Program} {ρ : Operand → Value} {o : Oper} (w : World) (t e : TypeId) (x y z : Operand) (ho : o.op = .slice t x none (some y) (some z)) (hu : P.underlying t = some (.slice e)) (sz : Nat) (hsz : (P.info? e).map (·.size) = some sz) (va : Option Addr) (n cap : Nat) (hva : ∀ ad, va = some ad → ad.spot = none) (hx : ρ x = .slice va n cap) (hy : ρ y = .int .i64 (n : Int)) (hz : ρ z = .int .i64 (n : Int)) (hc : n ≤ cap) :
    (execOp ρ o).run P w = .ok (.value (.slice va n n)) w := by
  have e3 : (0 : Int) ≤ (n : Int) := by omega
  have e4 : (n : Int) ≤ (cap : Int) := by omega
  have e5 : (n : Int) ≤ (n : Int) := Int.le_refl _
  have hm : (if n = 0 then va else va.map (·.add (0 * sz))) = va := by
    split
    · rfl
    · cases va with
      | none => rfl
      | some ad =>
        obtain ⟨b, k, sp⟩ := ad
        have := hva _ rfl
        simp only at this
        subst this
        simp [Addr.add_mid]
  unfold execOp
  simp only [ho, hx, hy, hz, Option.map_some, Option.map_none, Instr.sliceAt, Instr.slice, Instr.sliceBounds, Instr.sliceBound, asIntOf, Sem.run_bind, Sem.run_pure, Result.andThen_ok, run_underlying hu, size_of hsz, if_pos (And.intro e3 e4), if_pos (And.intro e3 e5), Int.toNat_natCast, Nat.sub_zero]
  rw [hm]
/-- append of one root onto a slice that has no room. -/
theorem wp_appG {o : Oper} {a : Act} {w : World} {K : Act → World → Prop} {Q : Exit → Act → World → Prop} (s x : Operand) (ho : o.op = .call { callee := .builtin .append, args := #[s, x], argTypes := #[88, 88] })
    (b k n : Nat) (F : Nat → Nat → Int) (hs : a.eval s = .slice (some ⟨b, k, none⟩) n n) (hrow : ∀ i, i < n → w.rangeAt b (k + 32 * i) (fcells 32 (fun _ => .u8) (F i))) (g : Nat) (z : Nat → Int) (hx : a.eval x = .slice (some ⟨g, 0, none⟩) 1 1) (hg : w.heap[g]? = some (.cells (rootV z) 23 (0, 0))) (hn : n ≤ 1099511627776)
    (h : ∀ c W, n + 1 ≤ c → RootsAt w.heap.size c (n + 1) (fun i => if i < n then F i else z) W → Below w.heap.size w W → K (a.put o.dst (.slice (some ⟨w.heap.size, 0, none⟩) (n + 1) c)) W) : o.wp Tryd.prog a w K Q := by
  obtain ⟨i0, hi1, hz0, hs1, hb1⟩ := info_parts info_root
  obtain ⟨olds, hol, hog⟩ : ∃ olds : List Value, olds.length = n * 32 ∧ ∀ i, i < n → ∀ j, j < 32 → olds[32 * i + j]? = some (.int .u8 (F i j)) := ⟨rcells ((List.range n).map F), by rw [rcells_length]; simp, fun i hi j hj => by
    rw [rcells_get _ i j (by simpa using hi) hj]
    simp [leaf, List.getD, hi]⟩
  have hr := run_append_grow (P := Tryd.prog) w 88 o.type 23 i0 _ Tryd.underlying88 hi1 hz0 ⟨b, k, none⟩ n n olds (by rw [hs1]; exact hol) (fun q v hq => by
    have hql : q < n * 32 := by rw [← hol]; exact (List.getElem?_eq_some_iff.1 hq).1
    rw [Addr.add_lit]
    have h1 := hrow (q / 32) (by omega) (q % 32) _ (fcells_get 32 (fun _ => .u8) (F (q / 32)) (q % 32) (by omega))
    have h2 := hog (q / 32) (by omega) (q % 32) (by omega)
    rw [show 32 * (q / 32) + q % 32 = q by omega, hq] at h2
    rw [show k + 32 * (q / 32) + q % 32 = k + q by omega] at h1
    rw [h1]
    exact h2.symm) ⟨g, 0, none⟩ 1 1 (fcells 32 (fun _ => .u8) z) (by rw [hs1, fcells_length]) (fun q v hq => by
    rw [Addr.add_lit]
    exact range_whole hg q v hq) (by omega) (by omega) (growslice_fits (by omega) (by rw [hb1]; omega))
  unfold Oper.wp execOp
  simp only [ho, resolve, invoke, builtin, Sem.run_bind, Sem.run_pure, Result.andThen_ok, List.map_toArray, List.map_cons, List.map_nil, hs, hx, hr]
  have hge := grownCap_ge w (n + 1) n 23
  refine h _ _ hge ⟨_, heap_new _ _ _ _ rfl, ?_, hge, fun i hi j hj => ?_⟩ ((Below.refl _ _).drew.alloc (Nat.le_refl _) _)
  · simp only [Array.size_append, List.size_toArray, size_zeroCells, hol, fcells_length]
    have h3 : (Value.agg (rep 32)).cells.size = 32 := rfl
    rw [h3]
    omega
  · show _ = some (Value.int IntKind.u8 ((if i < n then F i else z) j))
    by_cases e : i < n
    · rw [if_pos e, Array.getElem?_append_left (by simp only [Array.size_append, List.size_toArray, hol, fcells_length]; omega), Array.getElem?_append_left (by simp only [List.size_toArray, hol]; omega), List.getElem?_toArray]
      exact hog i e j hj
    · obtain rfl : i = n := by omega
      rw [if_neg e, Array.getElem?_append_left (by simp only [Array.size_append, List.size_toArray, hol, fcells_length]; omega), Array.getElem?_append_right (by simp only [List.size_toArray, hol]; omega), List.getElem?_toArray, List.size_toArray, hol, show 32 * i + j - i * 32 = j by omega]
      exact fcells_get 32 (fun _ => .u8) z j hj
set_option maxHeartbeats 8000000 in
theorem up_any (rs : List (Nat → Int)) (n H : Nat) (z : Nat → Int) (b o c : Nat) (lz : Nat → Nat → Int) (w : World) (hn : rs.length = n) (hH : (n + 1) / 2 = H) (hn1 : 1 ≤ n) (hn2 : n ≤ 4294967296) (hrow0 : RowR w (some ⟨b, o, none⟩) rs) (hlow0 : b < w.heap.size) (hcap : n ≤ c) (hz : IsR z) (hlz : ∀ i, lz i = if i < n then leaf rs i else z) (hT0 : Tabs w) :
    Calls Tryd.prog 131 #[.slice (some ⟨b, o, none⟩) n c, .agg (rootV z)] w fun e w' => ∃ g, e = .returned (.slice (some ⟨g, 0, none⟩) H H) ∧ RootsAt g H H (fun j => sha2 (lz (2 * j)) (lz (2 * j + 1))) w' ∧ w.heap.size ≤ g ∧ Below w.heap.size w w' := by
  have hT := Lib.hid hT0
  have hTl := Lib.hid (fun W (h : Below w.heap.size w W) => hT0.below hT0.size h)
  have hrow := Lib.hid (show ∀ i, i < n → w.rangeAt b (o + 32 * i) (fcells 32 (fun _ => .u8) (leaf rs i)) from fun i hi => by
    obtain ⟨b', o', e, h⟩ := hrow0.cell i (by omega)
    cases e
    exact h)
  have hlow := Lib.hid hlow0
  have hli := Lib.hid (show ∀ i, IsR (lz i) from fun i => by
    rw [hlz]
    split
    · exact leaf_is hrow0.is i
    · exact hz)
  have hlzH := Lib.hid hlz
  clear hT0 hrow0 hlow0 hlz hn
  go_enter Tryd.func131, Tryd.ntmps131
  by_cases hodd : n % 2 = 1
  · have hm : ((n : Nat) : Int).tmod 2 = 1 := by rw [Int.tmod_eq_emod_of_nonneg (by omega)]; omega
    have hNN : n + 1 = 2 * H := by omega
    go_wp2_with (
      ((with_reducible refine at_box 23 ?_); go_loud (refine wpList_box rfl 23 _ rfl _ rfl ?_)))
    rename_i K hK
    refine wp_region_held (S := fun w' => w'.heap[w.heap.size]? = some (.cells (rootV z) 23 (0, 0))) (by kernel_rfl) ?_
    have hS : ({ w.alloc (.cells (rootV z) 23) with drawn := (w.alloc (.cells (rootV z) 23)).drawn + 1 } : World).heap[w.heap.size]? = some (.cells (rootV z) 23 (0, 0)) := heap_new _ _ _ _ rfl
    refine takeL (i := 0) (v := (.slice (some ⟨b, o, none⟩) n c)) rfl (by kernel_rfl) (by kernel_rfl) (by kernel_rfl) (fun _ _ _ h => h) rfl (by assumption) (fun w' hS' => by go_simp) ?_
    simp only [Act.put, List.setIfInBounds_toArray, List.set_cons_zero, List.set_cons_succ]
    refine takeL (i := 1) (v := (.slice (some ⟨b, o, none⟩) n c)) rfl (by kernel_rfl) (by kernel_rfl) (by kernel_rfl) (fun _ _ _ h => h) rfl (by assumption) (fun w' hS' => by go_simp) ?_
    simp only [Act.put, List.setIfInBounds_toArray, List.set_cons_zero, List.set_cons_succ]
    refine takeL (i := 3) (v := (.slice (some ⟨b, o, none⟩) n c)) rfl (by kernel_rfl) (by kernel_rfl) (by kernel_rfl) (fun _ _ _ h => h) rfl (by assumption) (fun w' hS' => by go_simp) ?_
    simp only [Act.put, List.setIfInBounds_toArray, List.set_cons_zero, List.set_cons_succ]
    refine takeL (i := 2) (v := (.int .i64 (n : Int))) rfl (by kernel_rfl) (by kernel_rfl) (by kernel_rfl) (fun _ _ _ h => h) rfl (by assumption) (fun w' hS' => by go_simp) ?_
    simp only [Act.put, List.setIfInBounds_toArray, List.set_cons_zero, List.set_cons_succ]
    refine takeL (i := 4) (v := (.int .i64 (n : Int))) rfl (by kernel_rfl) (by kernel_rfl) (by kernel_rfl) (fun _ _ _ h => h) rfl (by assumption) (fun w' hS' => by go_simp) ?_
    simp only [Act.put, List.setIfInBounds_toArray, List.set_cons_zero, List.set_cons_succ]
    refine takeL (i := 6) (v := (.agg (rootV z))) rfl (by kernel_rfl) (by kernel_rfl) (by kernel_rfl) (fun _ _ _ h => h) rfl (by assumption) (fun w' hS' => run_load_box w' 23 _ (by rfl) w.heap.size (by rfl) _ _ (0, 0) _ hS' Tryd.underlying23 rfl (by rw [row_size row_root]; simp [fcells])) ?_
    simp only [Act.put, List.setIfInBounds_toArray, List.set_cons_zero, List.set_cons_succ]
    refine takeL (i := 5) (v := (.slice (some ⟨b, o, none⟩) n n)) rfl (by kernel_rfl) (by kernel_rfl) (by kernel_rfl) (fun _ _ _ h => h) rfl (by assumption) (fun w' _ => run_slice_full w' 88 23 _ _ _ (by rfl) Tryd.underlying88 32 (row_size row_root) (some ⟨b, o, none⟩) n c (fun ad e => by cases e; rfl) (by rfl) (by rfl) (by rfl) hcap) ?_
    simp only [Act.put, List.setIfInBounds_toArray, List.set_cons_zero, List.set_cons_succ]
    have hbz : Below w.heap.size w { w.alloc (.cells (rootV z) 23) with drawn := (w.alloc (.cells (rootV z) 23)).drawn + 1 } := ((Below.refl _ _).alloc (Nat.le_refl _) _).drew
    generalize hWb : ({ w.alloc (.cells (rootV z) 23) with drawn := (w.alloc (.cells (rootV z) 23)).drawn + 1 } : World) = Wb at *
    have hWbz : w.heap.size ≤ Wb.heap.size := hbz.size
    clear hWb
    refine oneL (i := 7) rfl (by kernel_rfl) rfl (wp_ran _ (run_bslice_root _ _ (by rfl) z (by rfl)) ⟨heap_past _ _ _ _ hS, ?_⟩)
    simp only [Act.put, List.setIfInBounds_toArray, List.set_cons_zero, List.set_cons_succ]
    have hbc := hbz.alloc hWbz (.cells (rootV z) 23)
    refine oneL (i := 8) rfl (by kernel_rfl) rfl (wp_appG _ _ rfl b o n (leaf rs) rfl (fun i hi => range_block (hrow.out i hi) (hbc.block b hlow.out)) _ z rfl (heap_new _ _ _ _ rfl) (by omega) (fun C2 W hC hRW hBw => ⟨(hBw.block _ (by rw [World.size_alloc]; have := block_lt hS; omega)).trans (heap_past _ _ _ _ hS), ?_⟩))
    have hS2 : W.heap[w.heap.size]? = some (.cells (rootV z) 23 (0, 0)) := (hBw.block _ (by rw [World.size_alloc]; have := block_lt hS; omega)).trans (heap_past _ _ _ _ hS)
    have hBW : Below w.heap.size w W := hbc.trans (hBw.mono (by rw [World.size_alloc]; omega))
    simp only [Act.put, List.setIfInBounds_toArray, List.set_cons_zero, List.set_cons_succ]
    generalize (Wb.alloc (.cells (rootV z) 23)).heap.size = cb at *
    refine takeL (i := 9) (v := (.slice (some ⟨cb, 0, none⟩) (n + 1) C2)) rfl (by kernel_rfl) (by kernel_rfl) (by kernel_rfl) (fun _ _ _ h => h) rfl (by assumption) (fun w' hS' => by go_simp) ?_
    simp only [Act.put, List.setIfInBounds_toArray, List.set_cons_zero, List.set_cons_succ]
    refine wpAnyH_done (by kernel_rfl) ?_ _
    refine hK _ _ ?_
    clear hK K hS hS2 hbc hBw hbz hWbz
    have UR : ∀ i, i < n + 1 → W.rangeAt cb (0 + 32 * i) (fcells 32 (fun _ => .u8) (lz i)) := fun i hi => by
      rw [hlzH.out, Nat.zero_add]
      exact hRW.range i hi
    have UL := hRW.lt
    have UB := hBW
    clear hRW hBW hlzH hodd hm
    refine gen_world (fun W => (∀ i, i < (n + 1) → W.rangeAt cb (0 + 32 * i) (fcells 32 (fun _ => .u8) (lz i))) ∧ cb < W.heap.size ∧ Below w.heap.size w W) ⟨UR, UL, UB⟩ ?_
    clear hrow hlow hT
    rintro W ⟨hR0, hcb, hB⟩
    have hR := Lib.hid hR0
    clear hR0
    have hwh : IntKind.i64.wrap (H : Int) = (H : Int) := by rw [IntKind.wrap_i64]; omega
    have hqn : ((n + 1 : Nat) : Int).tdiv 2 = (H : Int) := by
      rw [show ((n + 1 : Nat) : Int) = 2 * (H : Int) by omega]
      exact Int.mul_tdiv_cancel_left _ (by decide)
    go_wp2_with (
      ((with_reducible refine at_make 88 ?_); go_loud (refine wpList_plain rfl fun K hK => wp_ran _ (run_makeRoots _ _ _ rfl H rfl rfl (by omega)) (hK _ _ ?_)); clear hK K))
    have hHn : 2 * H ≤ n + 1 := by omega
    refine gen_world (fun W1 => RootsAt W.heap.size H H (fun _ => zeroR) W1 ∧ Below W.heap.size W W1) ⟨made_roots W H, (Below.refl _ _).alloc (Nat.le_refl _) _⟩ ?_
    rintro W1 ⟨hR1, hB1⟩
    have hR1' := Lib.hid hR1
    clear hR1 hwh hqn
    go_loopw [26] (fun i wr => ∃ k : Nat, k ≤ H ∧ i = .int .i64 k ∧ RootsAt W.heap.size H H (fun j => if j < k then sha2 (lz (2 * j)) (lz (2 * j + 1)) else zeroR) wr ∧ Below W.heap.size W wr) (fun i _ => H - (intOf i).toNat)
    case atStart => exact ⟨0, by omega, rfl, hR1'.out.congr (fun i _ => if_neg (by omega)), hB1⟩
    case round =>
      obtain ⟨k, hk, rfl, hR2, hB2⟩ := hrel
      have hR2' := Lib.hid hR2
      clear hR2 hR1' hB1
      by_cases hlt : k < H
      · have hlt' : ((k : Int) < (H : Int)) := by omega
        have hw2 : IntKind.i64.wrap (2 * (k : Int)) = ((2 * k : Nat) : Int) := by rw [IntKind.wrap_i64]; omega
        have hw3 : IntKind.i64.wrap (((2 * k : Nat) : Int) + 1) = ((2 * k + 1 : Nat) : Int) := by rw [IntKind.wrap_i64]; omega
        have hw5 : IntKind.i64.wrap (2 * (k : Int) + 1) = 2 * (k : Int) + 1 := by rw [IntKind.wrap_i64]; omega
        go_wp2
        rename_i K hK
        refine wp_region_held (S := fun _ => True) (by kernel_rfl) ?_
        have hS : True := trivial
        have hB3 : Below W.heap.size W { wr with drawn := wr.drawn + 1 } := hB2.drew
        have ht3 := hTl.out _ (hB.trans (hB3.mono hB.size))
        have hRa := Lib.hid (range_block (hR.out (2 * k) (by omega)) (hB3.block cb hcb))
        have hRb := Lib.hid (range_block (hR.out (2 * k + 1) (by omega)) (hB3.block cb hcb))
        refine takeL (i := 0) (v := (.slice (some ⟨W.heap.size, 0, none⟩) H H)) rfl (by kernel_rfl) (by kernel_rfl) (by kernel_rfl) (fun _ _ _ h => h) rfl (by assumption) (fun w' hS' => by go_simp) ?_
        simp only [Act.put, List.setIfInBounds_toArray, List.set_cons_zero, List.set_cons_succ]
        refine takeL (i := 1) (v := (.int .i64 (k : Int))) rfl (by kernel_rfl) (by kernel_rfl) (by kernel_rfl) (fun _ _ _ h => h) rfl (by assumption) (fun w' hS' => by go_simp) ?_
        simp only [Act.put, List.setIfInBounds_toArray, List.set_cons_zero, List.set_cons_succ]
        refine takeL (i := 2) (v := (.slice (some ⟨cb, 0, none⟩) (n + 1) C2)) rfl (by kernel_rfl) (by kernel_rfl) (by kernel_rfl) (fun _ _ _ h => h) rfl (by assumption) (fun w' hS' => by go_simp) ?_
        simp only [Act.put, List.setIfInBounds_toArray, List.set_cons_zero, List.set_cons_succ]
        refine takeL (i := 3) (v := (.int .i64 (k : Int))) rfl (by kernel_rfl) (by kernel_rfl) (by kernel_rfl) (fun _ _ _ h => h) rfl (by assumption) (fun w' hS' => by go_simp) ?_
        simp only [Act.put, List.setIfInBounds_toArray, List.set_cons_zero, List.set_cons_succ]
        refine takeL (i := 7) (v := (.slice (some ⟨cb, 0, none⟩) (n + 1) C2)) rfl (by kernel_rfl) (by kernel_rfl) (by kernel_rfl) (fun _ _ _ h => h) rfl (by assumption) (fun w' hS' => by go_simp) ?_
        simp only [Act.put, List.setIfInBounds_toArray, List.set_cons_zero, List.set_cons_succ]
        refine takeL (i := 8) (v := (.int .i64 (k : Int))) rfl (by kernel_rfl) (by kernel_rfl) (by kernel_rfl) (fun _ _ _ h => h) rfl (by assumption) (fun w' hS' => by go_simp) ?_
        simp only [Act.put, List.setIfInBounds_toArray, List.set_cons_zero, List.set_cons_succ]
        refine takeL (i := 4) (v := (.int .i64 ((2 * k : Nat) : Int))) rfl (by kernel_rfl) (by kernel_rfl) (by kernel_rfl) (fun _ _ _ h => h) rfl (by assumption) (fun w' hS' => by go_simp) ?_
        simp only [Act.put, List.setIfInBounds_toArray, List.set_cons_zero, List.set_cons_succ]
        refine takeL (i := 9) (v := (.int .i64 ((2 * k : Nat) : Int))) rfl (by kernel_rfl) (by kernel_rfl) (by kernel_rfl) (fun _ _ _ h => h) rfl (by assumption) (fun w' hS' => by go_simp) ?_
        simp only [Act.put, List.setIfInBounds_toArray, List.set_cons_zero, List.set_cons_succ]
        refine takeL (i := 10) (v := (.int .i64 ((2 * k + 1 : Nat) : Int))) rfl (by kernel_rfl) (by kernel_rfl) (by kernel_rfl) (fun _ _ _ h => h) rfl (by assumption) (fun w' hS' => by go_simp) ?_
        simp only [Act.put, List.setIfInBounds_toArray, List.set_cons_zero, List.set_cons_succ]
        refine takeL (i := 5) (v := (.pointer (some ⟨cb, 0 + 32 * (2 * k), none⟩))) rfl (by kernel_rfl) (by kernel_rfl) (by kernel_rfl) (fun _ _ _ h => h) rfl (by assumption) (fun w' _ => run_index_slice w' 88 23 _ _ (by rfl) Tryd.underlying88 32 (row_size row_root) cb 0 ((n + 1)) C2 (by rfl) .i64 (2 * k) (by rfl) (by omega) _ (by omega)) ?_
        simp only [Act.put, List.setIfInBounds_toArray, List.set_cons_zero, List.set_cons_succ]
        refine takeL (i := 11) (v := (.pointer (some ⟨cb, 0 + 32 * (2 * k + 1), none⟩))) rfl (by kernel_rfl) (by kernel_rfl) (by kernel_rfl) (fun _ _ _ h => h) rfl (by assumption) (fun w' _ => run_index_slice w' 88 23 _ _ (by rfl) Tryd.underlying88 32 (row_size row_root) cb 0 ((n + 1)) C2 (by rfl) .i64 (2 * k + 1) (by rfl) (by omega) _ (by omega)) ?_
        simp only [Act.put, List.setIfInBounds_toArray, List.set_cons_zero, List.set_cons_succ]
        refine pairL (i := 6) (k := 12) (.agg (rootV (lz (2 * k)))) (.agg (rootV (lz (2 * k + 1)))) (Wn := { wr with drawn := wr.drawn + 1 }) rfl rfl (by kernel_rfl) (by kernel_rfl) (by kernel_rfl) rfl rfl rfl rfl (run_load_rows _ 23 _ (by rfl) cb _ (by rfl) _ _ hRa.out Tryd.underlying23 rfl (by rw [row_size row_root, fcells_length])) (run_load_rows _ 23 _ (by rfl) cb _ (by rfl) _ _ hRa.out Tryd.underlying23 rfl (by rw [row_size row_root, fcells_length])) (run_load_rows _ 23 _ (by rfl) cb _ (by rfl) _ _ hRb.out Tryd.underlying23 rfl (by rw [row_size row_root, fcells_length])) (run_load_rows _ 23 _ (by rfl) cb _ (by rfl) _ _ hRb.out Tryd.underlying23 rfl (by rw [row_size row_root, fcells_length])) trivial trivial rfl rfl ?_
        simp only [Act.put, List.setIfInBounds_toArray, List.set_cons_zero, List.set_cons_succ]
        refine oneL (i := 13) rfl (by kernel_rfl) rfl (wp_call 88 #[.agg (rootV (lz (2 * k))), .agg (rootV (lz (2 * k + 1)))] (by go_simp) _ _ (two_any _ _ (hli.out _) (hli.out _) _ ht3) ?_)
        intro W4 hB4
        refine ⟨trivial, ?_⟩
        simp only [Act.put, List.setIfInBounds_toArray, List.set_cons_zero, List.set_cons_succ]
        refine takeL (i := 14) (v := (.pointer (some ⟨W.heap.size, 32 * k, none⟩))) rfl (by kernel_rfl) (by kernel_rfl) (by kernel_rfl) (fun _ _ _ h => h) rfl (by assumption) (fun w' _ => run_index_slice w' 88 23 _ _ (by rfl) Tryd.underlying88 32 (row_size row_root) W.heap.size 0 H H (by rfl) .i64 k (by rfl) (by omega) _ (by omega)) ?_
        simp only [Act.put, List.setIfInBounds_toArray, List.set_cons_zero, List.set_cons_succ]
        refine oneL (i := 15) rfl (by kernel_rfl) rfl (wp_store_root _ _ rfl W.heap.size H H k _ rfl (sha2 (lz (2 * k)) (lz (2 * k + 1))) rfl (hR2'.out.block (hB4.block W.heap.size hR2'.out.lt)) hlt (fun W5 hR5 hx5 => ⟨trivial, ?_⟩))
        refine wpAnyH_done (by kernel_rfl) ?_ _
        refine hK _ _ ?_
        clear hK K
        have hnw : W.heap.size ≤ wr.heap.size := Nat.le_of_lt hR2'.out.lt
        have hB5 : Below W.heap.size W W5 := hx5.below (hB3.trans (hB4.mono hnw)) (Nat.le_refl _) (Nat.le_trans hnw hB4.size)
        have hR6 := Lib.hid (hR5.congr (f' := fun j => if j < k + 1 then sha2 (lz (2 * j)) (lz (2 * j + 1)) else zeroR) (fun i hi => by
          by_cases c1 : i = k
          · subst c1
            simp only [if_true, if_pos (Nat.lt_succ_self _)]
          · rw [if_neg c1]
            by_cases c2 : i < k
            · rw [if_pos c2, if_pos (by omega)]
            · rw [if_neg c2, if_neg (by omega)]))
        clear hR5 hx5 hRa hRb hR2' hB4 hS
        go_wp2
        first
          | exact ⟨⟨k + 1, by omega, by go_num, hR6.out, hB5⟩, by simp [intOf]; omega⟩
          | (refine ⟨?_, by simp [intOf]; omega⟩
             (repeat apply Exists.intro)
             exact ⟨⟨k + 1, by omega, by go_num, hR6.out, hB5⟩, rfl⟩)
      · have e : k = H := by omega
        subst e
        have hR3 := Lib.hid (hR2'.out.congr (f' := fun j => sha2 (lz (2 * j)) (lz (2 * j + 1))) (fun i hi => by rw [if_pos hi]))
        go_wp2
        exact ret_t1 rfl _ rfl rfl ⟨W.heap.size, rfl, hR3.out, hB.size, hB.trans (hB2.mono hB.size)⟩
  · have hm : ((n : Nat) : Int).tmod 2 = 0 := by rw [Int.tmod_eq_emod_of_nonneg (by omega)]; omega
    have hNN : n = 2 * H := by omega
    have UR : ∀ i, i < n → (w.alloc (.cells (rootV z) 23)).rangeAt b (o + 32 * i) (fcells 32 (fun _ => .u8) (lz i)) := fun i hi => by
      rw [hlzH.out, if_pos hi]
      exact range_block (hrow.out i hi) (Below.heap_alloc _ _ _ hlow.out)
    have UL : b < (w.alloc (.cells (rootV z) 23)).heap.size := by rw [World.size_alloc]; have := hlow.out; omega
    have UB : Below w.heap.size w (w.alloc (.cells (rootV z) 23)) := (Below.refl _ _).alloc (Nat.le_refl _) _
    clear hlzH hodd
    have hwh : IntKind.i64.wrap (H : Int) = (H : Int) := by rw [IntKind.wrap_i64]; omega
    have hqn : ((n : Nat) : Int).tdiv 2 = (H : Int) := by
      rw [show ((n : Nat) : Int) = 2 * (H : Int) by omega]
      exact Int.mul_tdiv_cancel_left _ (by decide)
    have hHn : 2 * H ≤ n := by omega
    have hHm : H ≤ 4294967296 := by omega
    have hNN2 := Lib.hid hNN
    have hH2 := Lib.hid hH
    clear hNN hH
    go_wp2_with (
      ((with_reducible refine at_make 88 ?_)
       refine gen_l (fun W => (∀ i, i < n → W.rangeAt b (o + 32 * i) (fcells 32 (fun _ => .u8) (lz i))) ∧ b < W.heap.size ∧ Below w.heap.size w W) ⟨UR, UL, UB⟩ ?_
       clear hrow hlow hT UR UL UB
       rintro W ⟨hR0, hcb, hB⟩
       have hR := Lib.hid hR0
       clear hR0
       go_loud (refine wpList_plain rfl fun K hK => wp_ran _ (run_makeRoots _ _ _ rfl H rfl rfl hHm) (hK _ _ ?_)); clear hK K))

    clear hm
    refine gen_world (fun W1 => RootsAt W.heap.size H H (fun _ => zeroR) W1 ∧ Below W.heap.size W W1) ⟨made_roots W H, (Below.refl _ _).alloc (Nat.le_refl _) _⟩ ?_
    rintro W1 ⟨hR1, hB1⟩
    have hR1' := Lib.hid hR1
    clear hR1 hwh hqn
    go_loopw [26] (fun i wr => ∃ k : Nat, k ≤ H ∧ i = .int .i64 k ∧ RootsAt W.heap.size H H (fun j => if j < k then sha2 (lz (2 * j)) (lz (2 * j + 1)) else zeroR) wr ∧ Below W.heap.size W wr) (fun i _ => H - (intOf i).toNat)
    case atStart => exact ⟨0, by omega, rfl, hR1'.out.congr (fun i _ => if_neg (by omega)), hB1⟩
    case round =>
      obtain ⟨k, hk, rfl, hR2, hB2⟩ := hrel
      have hR2' := Lib.hid hR2
      clear hR2 hR1' hB1
      by_cases hlt : k < H
      · have hlt' : ((k : Int) < (H : Int)) := by omega
        have hw2 : IntKind.i64.wrap (2 * (k : Int)) = ((2 * k : Nat) : Int) := by rw [IntKind.wrap_i64]; omega
        have hw3 : IntKind.i64.wrap (((2 * k : Nat) : Int) + 1) = ((2 * k + 1 : Nat) : Int) := by rw [IntKind.wrap_i64]; omega
        have hw5 : IntKind.i64.wrap (2 * (k : Int) + 1) = 2 * (k : Int) + 1 := by rw [IntKind.wrap_i64]; omega
        go_wp2
        rename_i K hK
        refine wp_region_held (S := fun _ => True) (by kernel_rfl) ?_
        have hS : True := trivial
        have hB3 : Below W.heap.size W { wr with drawn := wr.drawn + 1 } := hB2.drew
        have ht3 := hTl.out _ (hB.trans (hB3.mono hB.size))
        have hRa := Lib.hid (range_block (hR.out (2 * k) (by omega)) (hB3.block b hcb))
        have hRb := Lib.hid (range_block (hR.out (2 * k + 1) (by omega)) (hB3.block b hcb))
        refine takeL (i := 0) (v := (.slice (some ⟨W.heap.size, 0, none⟩) H H)) rfl (by kernel_rfl) (by kernel_rfl) (by kernel_rfl) (fun _ _ _ h => h) rfl (by assumption) (fun w' hS' => by go_simp) ?_
        simp only [Act.put, List.setIfInBounds_toArray, List.set_cons_zero, List.set_cons_succ]
        refine takeL (i := 1) (v := (.int .i64 (k : Int))) rfl (by kernel_rfl) (by kernel_rfl) (by kernel_rfl) (fun _ _ _ h => h) rfl (by assumption) (fun w' hS' => by go_simp) ?_
        simp only [Act.put, List.setIfInBounds_toArray, List.set_cons_zero, List.set_cons_succ]
        refine takeL (i := 2) (v := (.slice (some ⟨b, o, none⟩) n c)) rfl (by kernel_rfl) (by kernel_rfl) (by kernel_rfl) (fun _ _ _ h => h) rfl (by assumption) (fun w' hS' => by go_simp) ?_
        simp only [Act.put, List.setIfInBounds_toArray, List.set_cons_zero, List.set_cons_succ]
        refine takeL (i := 3) (v := (.int .i64 (k : Int))) rfl (by kernel_rfl) (by kernel_rfl) (by kernel_rfl) (fun _ _ _ h => h) rfl (by assumption) (fun w' hS' => by go_simp) ?_
        simp only [Act.put, List.setIfInBounds_toArray, List.set_cons_zero, List.set_cons_succ]
        refine takeL (i := 7) (v := (.slice (some ⟨b, o, none⟩) n c)) rfl (by kernel_rfl) (by kernel_rfl) (by kernel_rfl) (fun _ _ _ h => h) rfl (by assumption) (fun w' hS' => by go_simp) ?_
        simp only [Act.put, List.setIfInBounds_toArray, List.set_cons_zero, List.set_cons_succ]
        refine takeL (i := 8) (v := (.int .i64 (k : Int))) rfl (by kernel_rfl) (by kernel_rfl) (by kernel_rfl) (fun _ _ _ h => h) rfl (by assumption) (fun w' hS' => by go_simp) ?_
        simp only [Act.put, List.setIfInBounds_toArray, List.set_cons_zero, List.set_cons_succ]
        refine takeL (i := 4) (v := (.int .i64 ((2 * k : Nat) : Int))) rfl (by kernel_rfl) (by kernel_rfl) (by kernel_rfl) (fun _ _ _ h => h) rfl (by assumption) (fun w' hS' => by go_simp) ?_
        simp only [Act.put, List.setIfInBounds_toArray, List.set_cons_zero, List.set_cons_succ]
        refine takeL (i := 9) (v := (.int .i64 ((2 * k : Nat) : Int))) rfl (by kernel_rfl) (by kernel_rfl) (by kernel_rfl) (fun _ _ _ h => h) rfl (by assumption) (fun w' hS' => by go_simp) ?_
        simp only [Act.put, List.setIfInBounds_toArray, List.set_cons_zero, List.set_cons_succ]
        refine takeL (i := 10) (v := (.int .i64 ((2 * k + 1 : Nat) : Int))) rfl (by kernel_rfl) (by kernel_rfl) (by kernel_rfl) (fun _ _ _ h => h) rfl (by assumption) (fun w' hS' => by go_simp) ?_
        simp only [Act.put, List.setIfInBounds_toArray, List.set_cons_zero, List.set_cons_succ]
        refine takeL (i := 5) (v := (.pointer (some ⟨b, o + 32 * (2 * k), none⟩))) rfl (by kernel_rfl) (by kernel_rfl) (by kernel_rfl) (fun _ _ _ h => h) rfl (by assumption) (fun w' _ => run_index_slice w' 88 23 _ _ (by rfl) Tryd.underlying88 32 (row_size row_root) b o (n) c (by rfl) .i64 (2 * k) (by rfl) (by omega) _ (by omega)) ?_
        simp only [Act.put, List.setIfInBounds_toArray, List.set_cons_zero, List.set_cons_succ]
        refine takeL (i := 11) (v := (.pointer (some ⟨b, o + 32 * (2 * k + 1), none⟩))) rfl (by kernel_rfl) (by kernel_rfl) (by kernel_rfl) (fun _ _ _ h => h) rfl (by assumption) (fun w' _ => run_index_slice w' 88 23 _ _ (by rfl) Tryd.underlying88 32 (row_size row_root) b o (n) c (by rfl) .i64 (2 * k + 1) (by rfl) (by omega) _ (by omega)) ?_
        simp only [Act.put, List.setIfInBounds_toArray, List.set_cons_zero, List.set_cons_succ]
        refine pairL (i := 6) (k := 12) (.agg (rootV (lz (2 * k)))) (.agg (rootV (lz (2 * k + 1)))) (Wn := { wr with drawn := wr.drawn + 1 }) rfl rfl (by kernel_rfl) (by kernel_rfl) (by kernel_rfl) rfl rfl rfl rfl (run_load_rows _ 23 _ (by rfl) b _ (by rfl) _ _ hRa.out Tryd.underlying23 rfl (by rw [row_size row_root, fcells_length])) (run_load_rows _ 23 _ (by rfl) b _ (by rfl) _ _ hRa.out Tryd.underlying23 rfl (by rw [row_size row_root, fcells_length])) (run_load_rows _ 23 _ (by rfl) b _ (by rfl) _ _ hRb.out Tryd.underlying23 rfl (by rw [row_size row_root, fcells_length])) (run_load_rows _ 23 _ (by rfl) b _ (by rfl) _ _ hRb.out Tryd.underlying23 rfl (by rw [row_size row_root, fcells_length])) trivial trivial rfl rfl ?_
        simp only [Act.put, List.setIfInBounds_toArray, List.set_cons_zero, List.set_cons_succ]
        refine oneL (i := 13) rfl (by kernel_rfl) rfl (wp_call 88 #[.agg (rootV (lz (2 * k))), .agg (rootV (lz (2 * k + 1)))] (by go_simp) _ _ (two_any _ _ (hli.out _) (hli.out _) _ ht3) ?_)
        intro W4 hB4
        refine ⟨trivial, ?_⟩
        simp only [Act.put, List.setIfInBounds_toArray, List.set_cons_zero, List.set_cons_succ]
        refine takeL (i := 14) (v := (.pointer (some ⟨W.heap.size, 32 * k, none⟩))) rfl (by kernel_rfl) (by kernel_rfl) (by kernel_rfl) (fun _ _ _ h => h) rfl (by assumption) (fun w' _ => run_index_slice w' 88 23 _ _ (by rfl) Tryd.underlying88 32 (row_size row_root) W.heap.size 0 H H (by rfl) .i64 k (by rfl) (by omega) _ (by omega)) ?_
        simp only [Act.put, List.setIfInBounds_toArray, List.set_cons_zero, List.set_cons_succ]
        refine oneL (i := 15) rfl (by kernel_rfl) rfl (wp_store_root _ _ rfl W.heap.size H H k _ rfl (sha2 (lz (2 * k)) (lz (2 * k + 1))) rfl (hR2'.out.block (hB4.block W.heap.size hR2'.out.lt)) hlt (fun W5 hR5 hx5 => ⟨trivial, ?_⟩))
        refine wpAnyH_done (by kernel_rfl) ?_ _
        refine hK _ _ ?_
        clear hK K
        have hnw : W.heap.size ≤ wr.heap.size := Nat.le_of_lt hR2'.out.lt
        have hB5 : Below W.heap.size W W5 := hx5.below (hB3.trans (hB4.mono hnw)) (Nat.le_refl _) (Nat.le_trans hnw hB4.size)
        have hR6 := Lib.hid (hR5.congr (f' := fun j => if j < k + 1 then sha2 (lz (2 * j)) (lz (2 * j + 1)) else zeroR) (fun i hi => by
          by_cases c1 : i = k
          · subst c1
            simp only [if_true, if_pos (Nat.lt_succ_self _)]
          · rw [if_neg c1]
            by_cases c2 : i < k
            · rw [if_pos c2, if_pos (by omega)]
            · rw [if_neg c2, if_neg (by omega)]))
        clear hR5 hx5 hRa hRb hR2' hB4 hS
        go_wp2
        first
          | exact ⟨⟨k + 1, by omega, by go_num, hR6.out, hB5⟩, by simp [intOf]; omega⟩
          | (refine ⟨?_, by simp [intOf]; omega⟩
             (repeat apply Exists.intro)
             exact ⟨⟨k + 1, by omega, by go_num, hR6.out, hB5⟩, rfl⟩)
      · have e : k = H := by omega
        subst e
        have hR3 := Lib.hid (hR2'.out.congr (f' := fun j => sha2 (lz (2 * j)) (lz (2 * j + 1))) (fun i hi => by rw [if_pos hi]))
        go_wp2
        exact ret_t1 rfl _ rfl rfl ⟨W.heap.size, rfl, hR3.out, hB.size, hB.trans (hB2.mono hB.size)⟩
end Go.Proofs.YtihelknkcomjpaaDoor
