/- wire.Hash.Done: the root of all chunks. -/
/- merkle.Pack: bytes as chunks. -/
/- wire.Hash.Bytes. -/
import Derived.Test.YtihelknkcomjpaaDoorJHash2
import Derived.ScopeJumps
set_option linter.unusedVariables false
set_option linter.unusedSimpArgs false
set_option linter.unnecessarySimpa false
namespace Go.Proofs.YtihelknkcomjpaaDoor
open Go.RowKit BigFrame
set_option maxRecDepth 100000
/-- Block g holds the roots f 0 .. f (k - 1). -/
def RootsAt (g cap k : Nat) (f : Nat → Nat → Int) (W : World) : Prop :=
  ∃ C : Array Value, W.heap[g]? = some (.cells C 23 (0, 0)) ∧ C.size = cap * 32 ∧ k ≤ cap ∧ ∀ i, i < k → ∀ j, j < 32 → C[32 * i + j]? = some (.int .u8 (f i j))
theorem RootsAt.congr {g cap k : Nat} {f f' : Nat → Nat → Int} {W : World} (h : RootsAt g cap k f W) (he : ∀ i, i < k → f' i = f i) : RootsAt g cap k f' W := by
  obtain ⟨C, h1, h2, h3, h4⟩ := h
  exact ⟨C, h1, h2, h3, fun i hi j hj => by rw [he i hi]; exact h4 i hi j hj⟩
theorem RootsAt.less {g cap k k' : Nat} {f : Nat → Nat → Int} {W : World} (h : RootsAt g cap k f W) (hk : k' ≤ k) : RootsAt g cap k' f W := by
  obtain ⟨C, h1, h2, h3, h4⟩ := h
  exact ⟨C, h1, h2, by omega, fun i hi j hj => h4 i (by omega) j hj⟩
theorem RootsAt.range {g cap k : Nat} {f : Nat → Nat → Int} {W : World} (h : RootsAt g cap k f W) (i : Nat) (hi : i < k) : W.rangeAt g (32 * i) (fcells 32 (fun _ => .u8) (f i)) := by
  obtain ⟨C, h1, h2, h3, h4⟩ := h
  intro j v hv
  have hj : j < 32 := by have := (List.getElem?_eq_some_iff.1 hv).1; rwa [fcells_length] at this
  rw [cell_of_row W g _ C _ _ h1, h4 i hi j hj]
  rw [fcells_get _ _ _ _ hj] at hv
  exact hv
theorem RootsAt.block {g cap k : Nat} {f : Nat → Nat → Int} {W W' : World} (h : RootsAt g cap k f W) (he : W'.heap[g]? = W.heap[g]?) : RootsAt g cap k f W' := by
  obtain ⟨C, h1, h2⟩ := h
  exact ⟨C, he.trans h1, h2⟩
theorem RootsAt.lt {g cap k : Nat} {f : Nat → Nat → Int} {W : World} (h : RootsAt g cap k f W) : g < W.heap.size := by
  obtain ⟨C, h1, _⟩ := h
  exact block_lt h1
theorem rcells_get (rs : List (Nat → Int)) (i j : Nat) (hi : i < rs.length) (hj : j < 32) : (rcells rs)[32 * i + j]? = some (.int .u8 (leaf rs i j)) := by
  induction rs generalizing i with
  | nil => simp at hi
  | cons a rs ih =>
    show ((fcells 32 (fun _ => .u8) a) ++ rcells rs)[32 * i + j]? = _
    cases i with
    | zero =>
      rw [List.getElem?_append_left (by rw [fcells_length]; omega), Nat.mul_zero, Nat.zero_add, fcells_get _ _ _ _ hj]
      rfl
    | succ i =>
      rw [List.getElem?_append_right (by rw [fcells_length]; omega), fcells_length, show 32 * (i + 1) + j - 32 = 32 * i + j by omega, ih i (by simpa using hi)]
      rfl
theorem roots_of_own {base : Nat} {v : Value} {rs : List (Nat → Int)} {w : World} (h : OwnR base v rs w) (hn : 0 < rs.length) : ∃ g cap, v = .slice (some ⟨g, 0, none⟩) rs.length cap ∧ base ≤ g ∧ RootsAt g cap rs.length (leaf rs) w := by
  rcases h.2 with ⟨_, h0⟩ | ⟨g, cap, cur, h1, h2, h3, h4, h5, h6, h7⟩
  · omega
  · refine ⟨g, cap, h1, h2, cur, h3, h6, h4, fun i hi j hj => ?_⟩
    have := rcells_get rs i j hi hj
    rw [← h7, List.getElem?_take_of_lt (by omega)] at this
    simpa using this
theorem splice_setCells (b : Nat) : ∀ (vs : List Value) (o : Nat) (w : World) (C : Array Value) (t : TypeId), w.heap[b]? = some (.cells C t (0, 0)) → ∃ C' : Array Value, (w.setCells b o vs).heap[b]? = some (.cells C' t (0, 0)) ∧ C'.size = C.size
  | [], _, _, C, _, h => ⟨C, h, rfl⟩
  | v :: vs, o, w, C, t, h => by
    obtain ⟨C', h1, h2⟩ := splice_setCells b vs (o + 1) _ _ t (Joins.block_setCell (i := o) h v)
    exact ⟨C', h1, by simpa using h2⟩
/-- One root among others is stored anew. -/
theorem wp_store_root {o : Oper} {a : Act} {w : World} {K : Act → World → Prop} {Q : Exit → Act → World → Prop} (x y : Operand) (ho : o.op = .store 23 x y) (g cap k i : Nat) (f : Nat → Nat → Int) (hx : a.eval x = .pointer (some ⟨g, 32 * i, none⟩)) (r : Nat → Int) (hy : a.eval y = .agg (rootV r)) (h0 : RootsAt g cap k f w) (hi : i < k)
    (h : ∀ W, RootsAt g cap k (fun j => if j = i then r else f j) W → Apart g w W → K (a.put o.dst undef) W) : o.wp Tryd.prog a w K Q := by
  obtain ⟨C, h1, h2, h3, h4⟩ := h0
  have hb : ∀ j, j < 32 → 32 * i + j < C.size := fun j hj => by rw [h2]; omega
  have ht : w.there g (32 * i) (rootV r).size := fun j hj => by
    have hj : j < 32 := by simpa [fcells] using hj
    refine ⟨?_, Joins.unfrozen_of_block h1 _⟩
    rw [cell_of_row w g _ C _ _ h1, Array.getElem?_eq_getElem (hb j hj)]
    rfl
  refine wp_store_mid 23 x y ho g (32 * i) (rootV r) hx hy ht (by rw [row_size row_root]; simp [fcells]) (fcells_one _ _ _) (h _ ?_ ((Apart.refl _ _).setCells g _ _ (Or.inl rfl)))
  obtain ⟨C', h5, h6⟩ := splice_setCells g (rootV r).toList (32 * i) w C _ h1
  have hs := World.rangeAt_setCells_same w g (32 * i) (rootV r).toList (by simpa using ht)
  refine ⟨C', h5, h6.trans h2, h3, fun i' hi' j hj => ?_⟩
  rw [← cell_of_row _ g (32 * i' + j) C' _ _ h5]
  by_cases e : i' = i
  · subst e
    simp only [if_true]
    exact hs j _ (fcells_get 32 (fun _ => .u8) r j hj)
  · simp only [if_neg e]
    rw [World.cell?_setCells_out g _ _ w ⟨g, 32 * i' + j, none⟩ (fun _ _ => by simp [fcells]; omega), cell_of_row w g _ C _ _ h1]
    exact h4 i' hi' j hj
theorem run_build_root0 {ρ : Operand → Value} {o : Oper} (w : World) (ho : o.op = .build 23 #[]) : (execOp ρ o).run Tryd.prog w = .ok (.value (.agg (rootV zeroR))) w := by
  have hz := (zero_of_info info_root2).1 w
  have hu : Tryd.prog.underlying 23 = some (.array 32 5) := Tryd.underlying23
  have hs : (sizeOf 5).run Tryd.prog w = .ok 1 w := size_of sz_u8 w
  have e : (#[] : Array (Nat × Operand)).map (fun x => match x with | (i, x) => (i, ρ x)) = #[] := by simp
  unfold execOp
  simp only [ho, Instr.build, Sem.run_bind, hz, Result.andThen_ok, run_underlying hu, hs, e, Sem.run_pure]
  rfl
def DoneF (b n g N cap : Nat) (u : Nat → Value) : Act := { tmps := #[.pointer (some ⟨b, 0, none⟩), u 1, .pointer (some ⟨n, 0, none⟩), .int .i64 0, .slice (some ⟨g, 0, none⟩) N cap, u 5, u 6, u 7, u 8, u 9, u 10, u 11, u 12, u 13, u 14, u 15, u 16, u 17, u 18, u 19, u 20, u 21, u 22, u 23, u 24, u 25, u 26, u 27, u 28, u 29, u 30, u 31, u 32, u 33, u 34, u 35, u 36, u 37, u 38, u 39, u 40, u 41, u 42, u 43, u 44, u 45, u 46, u 47, u 48, u 49, u 50, u 51, u 52, u 53, u 54, u 55, u 56, u 57, u 58, u 59, u 60, u 61, u 62, u 63], defers := [] }
/-- What holds at the label. -/
def DoneJ (b base n : Nat) (R : Nat → Int) (w : World) (a : Act) (wr : World) : Prop :=
  ∃ (e g cap : Nat) (f : Nat → Nat → Int) (u : Nat → Value), a = DoneF b n g (2 ^ e) cap u ∧ e ≤ 40 ∧ fullT e f = R ∧ (∀ i, IsR (f i)) ∧ RootsAt g cap (2 ^ e) f wr ∧ wr.heap[n]? = some (.cells zr 23 (0, 0)) ∧ base ≤ g ∧ g ≠ n ∧ Below base w wr
theorem DoneJ.of {b base n : Nat} {R : Nat → Int} {w : World} {a : Act} {wr : World} (e g cap : Nat) (f : Nat → Nat → Int) (hf : a = DoneF b n g (2 ^ e) cap (fun k => a.tmps.getD k undef)) (he : e ≤ 40) (hR : fullT e f = R) (hi : ∀ i, IsR (f i)) (h1 : RootsAt g cap (2 ^ e) f wr) (h2 : wr.heap[n]? = some (.cells zr 23 (0, 0))) (h3 : base ≤ g) (h4 : g ≠ n) (h5 : Below base w wr) : DoneJ b base n R w a wr :=
  ⟨e, g, cap, f, _, hf, he, hR, hi, h1, h2, h3, h4, h5⟩
theorem level_is (f : Nat → Nat → Int) (i : Nat) : IsR (level f i) := sha2_is _ _
def PadI (base n d : Nat) (rs : List (Nat → Int)) (w : World) (v : Value) (wr : World) : Prop :=
  ∃ k, rs.length + k ≤ 2 ^ d ∧ OwnR base v (rs ++ List.replicate k zeroR) wr ∧ wr.heap[n]? = some (.cells zr 23 (0, 0)) ∧ Below base w wr ∧ v.ownBlock ≠ some n
set_option maxHeartbeats 8000000 in
theorem hash_done_gen (b base d : Nat) (rs : List (Nat → Int)) (v : Value) (w : World) (hb0 : w.heap[b]? = some (.cells (hashC v) 90 (0, 0))) (hv0 : OwnR base v rs w) (hrs0 : ∀ r ∈ rs, IsR r) (hT0 : Tabs w) (h3 : 3 ≤ base) (hbase : base ≤ w.heap.size) (hd0 : Dep rs.length d) (hn : 1 ≤ rs.length) (hd40 : d ≤ 40) :
    Calls Tryd.prog 43 #[.pointer (some ⟨b, 0, none⟩)] w fun e w' => e = .returned (.tuple #[.agg (rootV (fullT d (leaf rs))), .int .i64 0]) ∧ Below base w w' := by
  have hb' := Lib.hid hb0
  have hv' := Lib.hid hv0
  have hlt := hv0.lt
  have hrs := Lib.hid hrs0
  have hT := Lib.hid hT0
  have hd := Lib.hid hd0
  clear hb0 hv0 hrs0 hT0 hd0
  generalize hR : fullT d (leaf rs) = R
  go_enter Tryd.func43, Tryd.ntmps43
  go_wp2_with (
    ((with_reducible refine at_alloc 23 ?_); go_loud (refine wpList_plain rfl fun K hK => wp_alloc_row 23 rfl 2 rfl zr 32 info_zr (hK _ _ ?_)); clear hK K))
  refine gen_world (fun W => W.heap[b]? = some (.cells (hashC v) 90 (0, 0)) ∧ OwnR base v rs W ∧ W.heap[w.heap.size]? = some (.cells zr 23 (0, 0)) ∧ Below base w W) ⟨heap_past _ _ _ _ hb'.out, own_later hv'.out ((Below.refl _ _).alloc (Nat.le_refl _) _), heap_new _ _ _ _ rfl, (Below.refl _ _).alloc hbase _⟩ ?_
  rintro W0 ⟨kb, kv, kn, kB⟩
  have hvn : v.ownBlock ≠ some w.heap.size := fun e => by have := (hlt _ e).2; omega
  have hTn : ∀ W, Below base w W → Tabs W := fun W h => hT.out.below h3 h
  clear hlt hb' hv' hT
  have hTn' := Lib.hid hTn
  clear hTn
  generalize hwn : w.heap.size = n at *
  have kb' := Lib.hid kb
  have kv' := Lib.hid kv
  have kn' := Lib.hid kn
  clear kb kv kn
  refine wp_scope_jumps2 0 (DoneJ b base n R w) (fun a' _ => vlen (a'.tmps.getD 4 undef)) rfl ?_ ?_
  · rintro a wr ⟨e, g, cap, f, u, rfl, he, hf, hfi, hR0, hn', hg, hgn, hB⟩
    have hBs : base ≤ wr.heap.size := by have := hB.size; omega
    have hn'' := Lib.hid hn'
    have hR1 := Lib.hid hR0
    have hfi' := Lib.hid hfi
    clear hn' hR0 hfi kb' kv' kn' hrs hd
    have hp40 : 2 ^ e ≤ 1099511627776 := Nat.pow_le_pow_right (n := 2) (by decide) he
    by_cases e0 : e = 0
    · subst e0
      have hr0 := hR1.out.range 0 (by decide)
      simp only [Nat.pow_zero] at *
      simp only [DoneF]
      go_wp2_with (first
        | ((with_reducible refine at_load 23 ?_); go_loud (refine wpList_value (by rfl) _ (run_load_rows _ 23 _ (by rfl) g 0 (by rfl) _ _ hr0 Tryd.underlying23 rfl (by rw [row_size row_root, fcells_length])) ?_))
        | ((with_reducible refine at_store 23 ?_); go_loud (refine wpList_store_row_gen (w0 := w) (n0 := base) 23 _ _ rfl rfl n rfl _ rfl (fcells_one _ _ _) (by rw [row_size row_root]; simp [fcells]) _ 23 hn''.out (by rw [zr_size]; simp [fcells]) (by omega) hB (fun W9 hW9 hBW _ => ?_))))
      simp only [Exit.jump]
      refine ret_mid_tmp rfl n 0 (fcells 32 (fun _ => .u8) (f 0)) _ rfl hW9 Tryd.underlying23 rfl (by rw [row_size row_root, fcells_length]) rfl ⟨?_, hBW⟩
      have e : f 0 = R := hf
      rw [e]
      rfl
    · obtain ⟨H, hH, hN2⟩ : ∃ H, H = 2 ^ (e - 1) ∧ 2 ^ e = 2 * H := ⟨_, rfl, by rw [← Nat.pow_succ']; congr 1; omega⟩
      have hH1 : 1 ≤ H := by rw [hH]; exact Nat.one_le_two_pow
      simp only [DoneF]
      generalize hN : 2 ^ e = N at *
      have hgt : (1 : Int) < (N : Int) := by omega
      have hq : (N : Int).tdiv 2 = (H : Int) := by
        rw [hN2, show ((2 * H : Nat) : Int) = 2 * (H : Int) by omega]
        exact Int.mul_tdiv_cancel_left _ (by decide)
      have hwH : IntKind.i64.wrap (H : Int) = (H : Int) := by rw [IntKind.wrap_i64]; omega
      have hN' := Lib.hid hN
      have hH' := Lib.hid hH
      have hN2' := Lib.hid hN2
      clear hN hH hN2
      have hcapN : N ≤ cap := hR1.out.choose_spec.2.2.1
      have hHb : H ≤ 549755813888 := by have := hN2'.out; omega
      have hHc : H ≤ cap := by have := hN2'.out; omega
      go_wp2
      refine gen_world (fun W => RootsAt g cap N f W ∧ W.heap[n]? = some (.cells zr 23 (0, 0)) ∧ Below base w W) ⟨hR1.out, hn''.out, hB⟩ ?_
      clear hR1 hn'' hB hBs wr
      rintro W1 ⟨hR1, hn1, hB1⟩
      have hR1' := Lib.hid hR1
      have hn1' := Lib.hid hn1
      clear hR1 hn1
      go_loopw [37] (fun i wr => ∃ k : Nat, k ≤ H ∧ i = .int .i64 k ∧ RootsAt g cap N (fun j => if j < k then level f j else f j) wr ∧ wr.heap[n]? = some (.cells zr 23 (0, 0)) ∧ Below base w wr) (fun i _ => H - (intOf i).toNat)
      case atStart => exact ⟨0, by omega, rfl, hR1'.out.congr (fun i _ => if_neg (by omega)), hn1'.out, hB1⟩
      case round =>
        obtain ⟨k, hk, rfl, hR2, hn2, hB2⟩ := hrel
        have hR2' := Lib.hid hR2
        have hn2' := Lib.hid hn2
        clear hR2 hn2 hR1' hn1' hB1
        by_cases hlt : k < H
        · have hlt' : ((k : Int) < (H : Int)) := by omega
          have hw2 : IntKind.i64.wrap (2 * (k : Int)) = ((2 * k : Nat) : Int) := by rw [IntKind.wrap_i64]; omega
          have hw3 : IntKind.i64.wrap (((2 * k : Nat) : Int) + 1) = ((2 * k + 1 : Nat) : Int) := by rw [IntKind.wrap_i64]; omega
          have hw5 : IntKind.i64.wrap (2 * (k : Int) + 1) = 2 * (k : Int) + 1 := by rw [IntKind.wrap_i64]; omega
          have hw4 : IntKind.i64.wrap ((k : Int) + 1) = ((k + 1 : Nat) : Int) := by rw [IntKind.wrap_i64]; omega
          go_wp2
          rename_i K hK
          refine wp_region_held (S := fun _ => True) (by kernel_rfl) ?_
          have hS : True := trivial
          have hB3 : Below base w { wr with drawn := wr.drawn + 1 } := hB2.drew
          have ht3 := hTn'.out _ hB3
          have hk2 : 2 * k + 1 < N := by have := hN2'.out; omega
          have hRa := Lib.hid (hR2'.out.range (2 * k) (by omega))
          have hRb := Lib.hid (hR2'.out.range (2 * k + 1) (by omega))
          simp only [if_neg (show ¬ 2 * k < k by omega), if_neg (show ¬ 2 * k + 1 < k by omega)] at hRa hRb
          refine takeL (i := 0) (v := (.slice (some ⟨g, 0, none⟩) N cap)) rfl (by kernel_rfl) (by kernel_rfl) (by kernel_rfl) (fun _ _ _ h => h) rfl (by assumption) (fun w' hS' => by go_simp) ?_
          simp only [Act.put, List.setIfInBounds_toArray, List.set_cons_zero, List.set_cons_succ]
          refine takeL (i := 1) (v := (.int .i64 (k : Int))) rfl (by kernel_rfl) (by kernel_rfl) (by kernel_rfl) (fun _ _ _ h => h) rfl (by assumption) (fun w' hS' => by go_simp) ?_
          simp only [Act.put, List.setIfInBounds_toArray, List.set_cons_zero, List.set_cons_succ]
          refine takeL (i := 2) (v := (.slice (some ⟨g, 0, none⟩) N cap)) rfl (by kernel_rfl) (by kernel_rfl) (by kernel_rfl) (fun _ _ _ h => h) rfl (by assumption) (fun w' hS' => by go_simp) ?_
          simp only [Act.put, List.setIfInBounds_toArray, List.set_cons_zero, List.set_cons_succ]
          refine takeL (i := 3) (v := (.int .i64 (k : Int))) rfl (by kernel_rfl) (by kernel_rfl) (by kernel_rfl) (fun _ _ _ h => h) rfl (by assumption) (fun w' hS' => by go_simp) ?_
          simp only [Act.put, List.setIfInBounds_toArray, List.set_cons_zero, List.set_cons_succ]
          refine takeL (i := 7) (v := (.slice (some ⟨g, 0, none⟩) N cap)) rfl (by kernel_rfl) (by kernel_rfl) (by kernel_rfl) (fun _ _ _ h => h) rfl (by assumption) (fun w' hS' => by go_simp) ?_
          simp only [Act.put, List.setIfInBounds_toArray, List.set_cons_zero, List.set_cons_succ]
          refine takeL (i := 8) (v := (.int .i64 (k : Int))) rfl (by kernel_rfl) (by kernel_rfl) (by kernel_rfl) (fun _ _ _ h => h) rfl (by assumption) (fun w' hS' => by go_simp) ?_
          simp only [Act.put, List.setIfInBounds_toArray, List.set_cons_zero, List.set_cons_succ]
          refine takeL (i := 4) (v := (.int .i64 ((2 * k : Nat) : Int))) rfl (by kernel_rfl) (by kernel_rfl) (by kernel_rfl) (fun _ _ _ h => h) rfl (by assumption) (fun w' hS' => by go_simp) ?_
          simp only [Act.put, List.setIfInBounds_toArray, List.set_cons_zero, List.set_cons_succ]
          refine takeL (i := 9) (v := (.int .i64 ((2 * k : Nat) : Int))) rfl (by kernel_rfl) (by kernel_rfl) (by kernel_rfl) (fun _ _ _ h => h) rfl (by assumption) (fun w' hS' => by go_simp) ?_
          simp only [Act.put, List.setIfInBounds_toArray, List.set_cons_zero, List.set_cons_succ]
          refine takeL (i := 10) (v := (.int .i64 ((2 * k + 1 : Nat) : Int))) rfl (by kernel_rfl) (by kernel_rfl) (by kernel_rfl) (fun _ _ _ h => h) rfl (by assumption) (fun w' hS' => by go_simp) ?_
          simp only [Act.put, List.setIfInBounds_toArray, List.set_cons_zero, List.set_cons_succ]
          refine takeL (i := 5) (v := (.pointer (some ⟨g, 32 * (2 * k), none⟩))) rfl (by kernel_rfl) (by kernel_rfl) (by kernel_rfl) (fun _ _ _ h => h) rfl (by assumption) (fun w' _ => run_index_slice w' 88 23 _ _ (by rfl) Tryd.underlying88 32 (row_size row_root) g 0 N cap (by rfl) .i64 (2 * k) (by rfl) (by omega) _ (by omega)) ?_
          simp only [Act.put, List.setIfInBounds_toArray, List.set_cons_zero, List.set_cons_succ]
          refine takeL (i := 11) (v := (.pointer (some ⟨g, 32 * (2 * k + 1), none⟩))) rfl (by kernel_rfl) (by kernel_rfl) (by kernel_rfl) (fun _ _ _ h => h) rfl (by assumption) (fun w' _ => run_index_slice w' 88 23 _ _ (by rfl) Tryd.underlying88 32 (row_size row_root) g 0 N cap (by rfl) .i64 (2 * k + 1) (by rfl) (by omega) _ (by omega)) ?_
          simp only [Act.put, List.setIfInBounds_toArray, List.set_cons_zero, List.set_cons_succ]
          refine pairL (i := 6) (k := 12) (.agg (rootV (f (2 * k)))) (.agg (rootV (f (2 * k + 1)))) (Wn := { wr with drawn := wr.drawn + 1 }) rfl rfl (by kernel_rfl) (by kernel_rfl) (by kernel_rfl) rfl rfl rfl rfl (run_load_rows _ 23 _ (by rfl) g _ (by rfl) _ _ hRa.out Tryd.underlying23 rfl (by rw [row_size row_root, fcells_length])) (run_load_rows _ 23 _ (by rfl) g _ (by rfl) _ _ hRa.out Tryd.underlying23 rfl (by rw [row_size row_root, fcells_length])) (run_load_rows _ 23 _ (by rfl) g _ (by rfl) _ _ hRb.out Tryd.underlying23 rfl (by rw [row_size row_root, fcells_length])) (run_load_rows _ 23 _ (by rfl) g _ (by rfl) _ _ hRb.out Tryd.underlying23 rfl (by rw [row_size row_root, fcells_length])) trivial trivial rfl rfl ?_
          simp only [Act.put, List.setIfInBounds_toArray, List.set_cons_zero, List.set_cons_succ]
          refine oneL (i := 13) rfl (by kernel_rfl) rfl (wp_call 88 #[.agg (rootV (f (2 * k))), .agg (rootV (f (2 * k + 1)))] (by go_simp) _ _ (two_any (f (2 * k)) (f (2 * k + 1)) (hfi'.out _) (hfi'.out _) _ ht3) ?_)
          intro W4 hB4
          refine ⟨trivial, ?_⟩
          simp only [Act.put, List.setIfInBounds_toArray, List.set_cons_zero, List.set_cons_succ]
          refine takeL (i := 14) (v := (.pointer (some ⟨g, 32 * k, none⟩))) rfl (by kernel_rfl) (by kernel_rfl) (by kernel_rfl) (fun _ _ _ h => h) rfl (by assumption) (fun w' _ => run_index_slice w' 88 23 _ _ (by rfl) Tryd.underlying88 32 (row_size row_root) g 0 N cap (by rfl) .i64 k (by rfl) (by omega) _ (by omega)) ?_
          simp only [Act.put, List.setIfInBounds_toArray, List.set_cons_zero, List.set_cons_succ]
          refine oneL (i := 15) rfl (by kernel_rfl) rfl (wp_store_root _ _ rfl g cap N k _ rfl (sha2 (f (2 * k)) (f (2 * k + 1))) rfl (hR2'.out.block (hB4.block g hR2'.out.lt)) (by omega) (fun W5 hR5 hx5 => ⟨trivial, ?_⟩))
          refine wpAnyH_done (by kernel_rfl) ?_ _
          refine hK _ _ ?_
          clear hK K
          simp only [Act.put]
          have hR6 := Lib.hid (hR5.congr (f' := fun j => if j < k + 1 then level f j else f j) (fun i hi => by
            by_cases c1 : i = k
            · subst c1
              simp only [if_true, if_pos (Nat.lt_succ_self i)]
              rfl
            · by_cases c2 : i < k
              · simp only [if_neg c1, if_pos c2, if_pos (show i < k + 1 by omega)]
              · simp only [if_neg c1, if_neg c2, if_neg (show ¬ i < k + 1 by omega)]))
          have hn6 := Lib.hid ((hx5.block n (by have := hB4.size; have := block_lt hn2'.out; exact Nat.lt_of_lt_of_le this hB4.size) (Ne.symm hgn)).trans ((hB4.block n (block_lt hn2'.out)).trans hn2'.out))
          have hB6 := Lib.hid (hx5.below (hB3.trans (hB4.mono (by have := hB2.size; show base ≤ wr.heap.size; omega))) hg (by have := hB4.size; have := hB2.size; exact Nat.le_trans (show base ≤ wr.heap.size by omega) hB4.size))
          clear hR5 hx5 hB4 hB3 ht3 hRa hRb hS
          go_wp2
          exact ⟨⟨k + 1, by omega, by go_num, hR6.out, hn6.out, hB6.out⟩, by simp [intOf]; omega⟩
        · have e : k = H := by omega
          subst e
          go_wp2
          go_step3
          have hNe := hN'.out
          have hHe := hH'.out
          have hR7 := (hR2'.out.less (k' := k) (by have := hN2'.out; omega)).congr (f' := level f) (fun i hi => (if_pos hi).symm)
          have hfl : fullT (e - 1) (level f) = R := by rw [← fullT_level, show e - 1 + 1 = e by omega]; exact hf
          have hlast : k < N := by have := hN2'.out; omega
          clear hN2' hN' hlt
          subst hHe
          exact ⟨rfl, DoneJ.of (e - 1) g cap (level f) (by kernel_rfl) (by omega) hfl (level_is f) hR7 hn2'.out hg hgn hB2, hlast⟩
  · intro hrest
    have hrest' := Lib.hid hrest
    clear hrest
    go_wp2_with (first
      | ((with_reducible refine at_load 36 ?_); go_loud (refine wpList_value (by rfl) _ (run_load_cell _ 36 _ (by rfl) ⟨b, 1, none⟩ (by rfl) (.int .i64 0) (cell_hash kb'.out 1) _ Tryd.underlying36 rfl) ?_))
      | ((with_reducible refine at_load 88 ?_); go_loud (refine wpList_value (by rfl) _ (run_load_cell _ 88 _ (by rfl) ⟨b, 0, none⟩ (by rfl) v (cell_hash kb'.out 0) _ Tryd.underlying88 rfl) ?_)))
    rename_i K hK
    go_loopw [4] (fun i wr => PadI base n d rs w i wr) (fun i _ => 2 ^ d - vlen i)
    case atStart => exact ⟨0, by have := hd.out.1; omega, by rw [List.replicate_zero, List.append_nil]; exact kv'.out, kn'.out, kB, hvn⟩
    case round =>
      obtain ⟨k, hk, hO, hn', hB, hne⟩ := hrel
      have hBs : base ≤ wr.heap.size := by have := hB.size; omega
      have hlen : (rs ++ List.replicate k zeroR).length = rs.length + k := by simp
      have hss : (rs ++ List.replicate k zeroR) ++ [zeroR] = rs ++ List.replicate (k + 1) zeroR := by
        rw [List.append_assoc, ← List.replicate_succ']
      have hlf := leaf_pad rs k
      have hri : ∀ r ∈ rs ++ List.replicate k zeroR, IsR r := fun r hr => by
        rcases List.mem_append.1 hr with hr | hr
        · exact hrs.out r hr
        · rw [List.eq_of_mem_replicate hr]; exact zeroR_is
      generalize rs ++ List.replicate k zeroR = ss at *
      obtain ⟨va, c, e, hva0⟩ := own_form hO
      clear hva0
      subst e
      have hO' := Lib.hid hO
      have hn'' := Lib.hid hn'
      have hss' := Lib.hid hss
      have hri' := Lib.hid hri
      have hlf' := Lib.hid hlf
      clear hO hn' hss hri hlf
      have hp40 : 2 ^ d ≤ 1099511627776 := Nat.pow_le_pow_right (n := 2) (by decide) hd40
      have hw1 : IntKind.i64.wrap ((ss.length : Int) - 1) = (ss.length : Int) - 1 := by rw [IntKind.wrap_i64]; omega
      have hand := and_len ss.length (by omega) (by omega)
      have hpow := Lib.hid (hd.out.pow hn (show rs.length ≤ ss.length by omega) (by omega))
      generalize hMe : ss.length &&& (ss.length - 1) = M at *
      have hMe' := Lib.hid hMe
      clear hMe
      have hlen' := Lib.hid hlen
      have hk' := Lib.hid hk
      clear hlen hk
      by_cases hM : M = 0
      · have hM' : ((M : Int) != 0) = false := by simp [hM]
        have hq := Lib.hid (hpow.out.1 hM)
        go_wp2
        go_step3
        rename_i K hK
        refine hK _ _ ?_
        obtain ⟨g, cap, e, hg, hR0⟩ := roots_of_own hO'.out (by have := hlen'.out; omega)
        obtain ⟨rfl, rfl⟩ : va = some ⟨g, 0, none⟩ ∧ c = cap := by injection e with e1 e2 e3; exact ⟨e1, e3⟩
        rw [hq.out] at hR0 ⊢
        have hgn : g ≠ n := fun e => hne (by rw [e]; rfl)
        refine hrest'.out _ _ (DoneJ.of d g c (leaf ss) (by kernel_rfl) hd40 (by rw [hlf'.out]; exact hR) (leaf_is hri'.out) hR0 hn''.out hg hgn hB)
      · have hM' : ((M : Int) != 0) = true := by simp [hM]
        go_wp2_with (first
          | ((with_reducible refine at_build 23 ?_); go_loud (refine wpList_value (by rfl) _ (run_build_root0 _ rfl) ?_))
          | ((with_reducible refine at_bslice 88 ?_); go_loud (refine wpList_plain rfl fun K hK => wp_ran _ (run_bslice_root _ _ rfl zeroR (by rfl)) (hK _ _ ?_)); clear hK K)
          | ((with_reducible refine at_call_builtin .append ?_); go_loud (refine wpList_plain rfl fun K hK => wp_appS (.tmp 27) (.tmp 29) 88 23 rfl Tryd.underlying88 (.agg (rep 32)) 32 32 info_root rfl (by decide) base ss.length _ (rcells ss) rfl (own_later hO'.out ((Below.refl _ _).alloc (Nat.le_refl _) _)) ⟨wr.heap.size, 0, none⟩ 1 1 rfl (fcells 32 (fun _ => .u8) zeroR) (by rw [fcells_length]) (range_whole (heap_new _ _ _ _ rfl)) rfl fcells_mem (by have := hlen'.out; have := hk'.out; omega) (by have := hlen'.out; have := hk'.out; omega) (Nat.le_trans hBs (by simp)) (Nat.le_refl _) (hB.alloc hBs _) (fun v1 W2 h1 b1 z1 o1 q1 => hK _ _ ?_)); clear hK K
             rw [show rcells ss ++ fcells 32 (fun _ => .u8) zeroR = rcells (ss ++ [zeroR]) by rw [rcells_append, rcells_one], show ss.length + 1 = (ss ++ [zeroR]).length by simp] at h1
             obtain ⟨va1, c1, e1, hva1⟩ := own_form h1
             clear hva1
             subst e1
             have hnb := Lib.hid ((o1 n (by rw [World.size_alloc]; have := block_lt hn''.out; omega) (Ne.symm hne)).trans (heap_past _ _ _ _ hn''.out))
             have hne1 := Lib.hid (fun e : Value.ownBlock _ = some n => q1.elim (fun h => hne (h.symm.trans e)) (fun h => by have := Option.some.inj (e.symm.trans h); have := block_lt hn''.out; rw [World.size_alloc] at *; omega))
             have h1' := Lib.hid h1
             clear o1 q1 h1))
        have e2 : ss.length + 1 = (ss ++ [zeroR]).length := by simp
        have e3 := hlen'.out
        have e4 : ss.length ≠ 2 ^ d := fun e => hM (hpow.out.2 e)
        have e5 := hk'.out
        refine ⟨⟨k + 1, by omega, ?_, hnb.out, b1, ?_⟩, ?_⟩
        · rw [← hss'.out, e2]
          exact h1'.out
        · rw [e2]
          exact hne1.out
        · simp only [vlen]
          show 2 ^ d - (ss.length + 1) < 2 ^ d - ss.length
          omega
end Go.Proofs.YtihelknkcomjpaaDoor
namespace Go.Proofs.YtihelknkcomjpaaDoor
open Go.RowKit BigFrame
set_option maxRecDepth 100000
theorem hash_done (b d : Nat) (rs : List (Nat → Int)) (w : World) (h : HashW b rs w) (hT : Tabs w) (h3 : 3 ≤ b) (hd : Dep rs.length d) (hn : 1 ≤ rs.length) (hd40 : d ≤ 40) :
    Calls Tryd.prog 43 #[.pointer (some ⟨b, 0, none⟩)] w fun e w' => e = .returned (.tuple #[.agg (rootV (fullT d (leaf rs))), .int .i64 0]) ∧ Below b w w' := by
  obtain ⟨v, hb, hv⟩ := h.has
  exact (hash_done_gen b (b + 1) d rs v w hb hv h.is hT (by omega) h.size hd hn hd40).mono fun e w' ⟨h1, h2⟩ => ⟨h1, h2.mono (by omega)⟩
def chunks (l : List Int) : List (Nat → Int) := (List.range ((l.length + 31) / 32)).map (chunkL l)
theorem chunks_length (l : List Int) : (chunks l).length = (l.length + 31) / 32 := by simp [chunks]
theorem chunks_leaf (l : List Int) (i : Nat) (h : i < (l.length + 31) / 32) : leaf (chunks l) i = chunkL l i := by
  simp [leaf, chunks, List.getD, h]
theorem chunks_is {l : List Int} (h : ∀ m ∈ l, CK.ok .u8 m) : ∀ r ∈ chunks l, IsR r := by
  intro r hr
  obtain ⟨i, _, rfl⟩ := List.mem_map.1 hr
  exact chunkL_is h i
theorem own_of_roots {g cap n base : Nat} {f : Nat → Nat → Int} {rs : List (Nat → Int)} {W : World} (h : RootsAt g cap n f W) (hc : cap ≤ maxLen) (hg : base ≤ g) (hn : rs.length = n) (he : ∀ i, i < n → leaf rs i = f i) : OwnR base (.slice (some ⟨g, 0, none⟩) n cap) rs W := by
  obtain ⟨C, h1, h2, h3, h4⟩ := h
  subst hn
  refine ⟨rcells_length rs, Or.inr ⟨g, cap, C, rfl, hg, h1, h3, hc, h2, ?_⟩⟩
  apply List.ext_getElem?
  intro q
  by_cases c : q < rs.length * 32
  · have hq : q = 32 * (q / 32) + q % 32 := by omega
    rw [List.getElem?_take_of_lt c, hq, rcells_get rs (q / 32) (q % 32) (by omega) (by omega), he _ (by omega)]
    simpa using h4 (q / 32) (by omega) (q % 32) (by omega)
  · rw [List.getElem?_eq_none (by simp; omega), List.getElem?_eq_none (by rw [rcells_length]; omega)]
theorem made_roots (w : World) (n : Nat) : RootsAt w.heap.size n n (fun _ => zeroR) (w.alloc (.cells (madeCells zr (n * 32)) 23)) := by
  refine ⟨_, heap_new _ _ _ _ rfl, size_madeCells _ _, Nat.le_refl _, fun i hi j hj => ?_⟩
  have hz : ∀ q, q < 32 → zr[q]! = .int .u8 0 := fun q hq => by
    rw [getElem!_def]
    have : zr[q]? = some (Value.int .u8 0) := by
      show (List.replicate 32 (Value.int .u8 0)).toArray[q]? = _
      rw [List.getElem?_toArray]
      rw [List.getElem?_replicate, if_pos hq]
    rw [this]
  have hq : 32 * i + j < n * 32 := by omega
  simp only [madeCells, Array.getElem?_map, Array.getElem?_range, if_pos hq, Option.map_some]
  rw [zr_size]
  rw [hz _ (Nat.mod_lt _ (by decide))]
  rfl
/-- Bytes are copied over the head of one root among others. -/
theorem wp_copy_root {o : Oper} {a : Act} {w : World} {K : Act → World → Prop} {Q : Exit → Act → World → Prop} (d s : Operand)
    (ho : o.op = .call { callee := .builtin .copy, args := #[d, s], argTypes := #[34, 34] }) (g cap n i b bo sLen sCap : Nat) (f : Nat → Nat → Int) (dCap : Nat) (hd : a.eval d = .slice (some ⟨g, 32 * i, none⟩) 32 dCap) (hs : a.eval s = .slice (some ⟨b, bo, none⟩) sLen sCap)
    (h0 : RootsAt g cap n f w) (hi : i < n) (m : List Int) (hm : m.length = Nat.min sLen 32) (hsrc : ∀ j, j < m.length → w.cell? ⟨b, bo + j, none⟩ = some (.int .u8 (m.getD j 0))) (r : Nat → Int) (hr : ∀ j, j < 32 → r j = if j < m.length then m.getD j 0 else f i j)
    (h : ∀ W, RootsAt g cap n (fun j => if j = i then r else f j) W → Apart g w W → K (a.put o.dst (goInt m.length)) W) : o.wp Tryd.prog a w K Q := by
  obtain ⟨C, h1, h2, h3, h4⟩ := h0
  have hl : m.length ≤ 32 := by rw [hm]; exact Nat.min_le_right _ _
  have hfit : 32 * i + (m.map (Value.int .u8)).length ≤ C.toList.length := by
    rw [List.length_map]
    have : C.toList.length = cap * 32 := by simpa using h2
    omega
  refine wp_copy_gen d s 34 34 ho 5 Tryd.underlying34 sz_u8 g (32 * i) b bo 32 dCap sLen sCap hd hs C _ h1 (m.map (Value.int .u8)) (by rw [List.length_map]; exact hm) (fun j v hv => ?_) (by rw [Array.length_toList] at hfit; exact hfit) (fun v hv => ?_) (fun W hW hx => ?_)
  · have hj : j < m.length := by have := (List.getElem?_eq_some_iff.1 hv).1; simpa using this
    rw [hsrc j hj, ← hv]
    simp [List.getD, hj]
  · obtain ⟨_, _, rfl⟩ := List.mem_map.1 hv
    rfl
  · rw [List.length_map]
    refine h W ⟨_, hW, by rw [List.size_toArray, splice_length hfit, Array.length_toList, h2], h3, fun i' hi' j hj => ?_⟩ hx
    rw [List.getElem?_toArray, splice_get hfit, List.length_map]
    by_cases e : i' = i
    · subst e
      rw [if_neg (by omega)]
      simp only [if_true]
      rw [hr j hj]
      by_cases c : j < m.length
      · rw [if_pos (by omega), if_pos c, Nat.add_sub_cancel_left]
        simp [List.getD, c]
      · rw [if_neg (by omega), if_neg c]
        simpa using h4 i' hi' j hj
    · simp only [if_neg e]
      have h5 := h4 i' hi' j hj
      by_cases c : 32 * i' + j < 32 * i
      · rw [if_pos c]; simpa using h5
      · rw [if_neg c, if_neg (by omega)]; simpa using h5
theorem run_slice_arr {P : Program} {ρ : Operand → Value} {o : Oper} (w : World) (t e : TypeId) (n : Nat) (x : Operand) (ho : o.op = .slice t x none none none) (hu : P.underlying t = some (.array n e)) (sz : Nat) (hsz : (P.info? e).map (·.size) = some sz) (b k : Nat) (hx : ρ x = .pointer (some ⟨b, k, none⟩)) :
    (execOp ρ o).run P w = .ok (.value (.slice (some ⟨b, k, none⟩) n n)) w := by
  unfold execOp
  simp only [ho, hx, Option.map_none, Instr.sliceAt, Instr.sliceBounds, Instr.sureAddr, Sem.run_bind, Sem.run_pure, Result.andThen_ok, run_underlying hu, size_of hsz, Nat.zero_mul, Addr.add_mid, Nat.add_zero, ite_self, Nat.sub_zero]
/-- b[k:]. -/
theorem run_slice_from {P : Program} {ρ : Operand → Value} {o : Oper} (w : World) (t e : TypeId) (x y : Operand) (ho : o.op = .slice t x (some y) none none) (hu : P.underlying t = some (.slice e)) (sz : Nat) (hsz : (P.info? e).map (·.size) = some sz) (b off len cap k : Nat) (hx : ρ x = .slice (some ⟨b, off, none⟩) len cap) (hy : ρ y = .int .i64 (k : Int)) (hk : k ≤ len) (hc : k < cap) (q : Nat) (hq : off + k * sz = q) :
    (execOp ρ o).run P w = .ok (.value (.slice (some ⟨b, q, none⟩) (len - k) (cap - k))) w := by
  have hne : cap ≠ k := by omega
  have e1 : (0 : Int) ≤ (k : Int) := by omega
  have e2 : (k : Int) ≤ (len : Int) := by omega
  unfold execOp
  simp [ho, hx, hy, Instr.sliceAt, Instr.slice, Instr.sliceBounds, Instr.sliceBound, asIntOf, Sem.run_bind, Sem.run_pure, Result.andThen_ok, run_underlying hu, size_of hsz, Addr.add_mid, hq, hne, e1, e2]
  intro hlt
  omega
theorem run_makeRoots {ρ : Operand → Value} {o : Oper} (w : World) (x y : Operand) (ho : o.op = .makeSlice 88 x y) (n : Nat) (hx : ρ x = .int .i64 (n : Int)) (hy : ρ y = .int .i64 (n : Int)) (hn : n ≤ 4294967296) :
    (execOp ρ o).run Tryd.prog w = .ok (.value (.slice (some ⟨w.heap.size, 0, none⟩) n n)) (w.alloc (.cells (madeCells zr (n * 32)) 23)) := by
  obtain ⟨i, hi, hz, hs, hb⟩ := info_parts info_root
  have h := run_make (P := Tryd.prog) w 88 23 i _ Tryd.underlying88 hi hz .i64 .i64 n n (by omega) (Int.le_refl _) (by rw [hb]; omega) (by omega)
  simp only [Int.toNat_natCast, hs] at h
  unfold execOp
  simp only [ho, hx, hy, Sem.run_bind, h, Result.andThen_ok, Sem.run_pure]
  rfl
theorem at_make {P : Program} {ops : Array Oper} {Q : Exit → Act → World → Prop} {rest : List Oper} {a : Act} {w : World} {d : Option Tmp} {ty : TypeId} {pos : String} {af : Array Edge} {g : Option (Nat × Bool)} (t : TypeId) {x y : Operand} (h : wpList P ops Q (⟨d, .makeSlice t x y, ty, pos, af, g⟩ :: rest) a w) : wpList P ops Q (⟨d, .makeSlice t x y, ty, pos, af, g⟩ :: rest) a w := h
set_option maxHeartbeats 4000000 in
theorem pack_any (l : List Int) (va : Option Addr) (c : Nat) (w : World) (hl : Row w va .u8 l) (hc : l.length ≤ c) (hlen : l.length ≤ 70368744177) :
    Calls Tryd.prog 108 #[.slice va l.length c] w fun e w' => (∃ va' c', e = .returned (.slice va' (chunks l).length c') ∧ OwnR w.heap.size (.slice va' (chunks l).length c') (chunks l) w') ∧ Below w.heap.size w w' := by
  have hl' := Lib.hid hl
  clear hl
  generalize hL : l.length = L at *
  have hL' := Lib.hid hL
  clear hL
  have hw1 : IntKind.i64.wrap ((L : Int) + 31) = ((L + 31 : Nat) : Int) := by rw [IntKind.wrap_i64]; omega
  have hw2 : ((L + 31 : Nat) : Int).tdiv 32 = (((L + 31) / 32 : Nat) : Int) := by
    rw [Int.tdiv_eq_ediv_of_nonneg (by omega)]
    omega
  obtain ⟨N, hN⟩ : ∃ N, (L + 31) / 32 = N := ⟨_, rfl⟩
  rw [hN] at hw2
  have hN' := Lib.hid hN
  clear hN
  have hw3 : IntKind.i64.wrap (N : Int) = (N : Int) := by have := hN'.out; rw [IntKind.wrap_i64]; omega
  go_enter Tryd.func108, Tryd.ntmps108
  generalize hM : ((L + 31 : Nat) : Int) = M at hw1 hw2
  clear hM
  go_wp2_with (
    ((with_reducible refine at_make 88 ?_); go_loud (refine wpList_plain rfl fun K hK => wp_ran _ (run_makeRoots _ _ _ rfl N rfl rfl (by have := hN'.out; omega)) (hK _ _ ?_)); clear hK K))
  refine gen_world (fun W => RootsAt w.heap.size N N (fun _ => zeroR) W ∧ Below w.heap.size w W) ⟨made_roots w N, (Below.refl _ _).alloc (Nat.le_refl _) _⟩ ?_
  rintro W1 ⟨hR1, hB1⟩
  have hR1' := Lib.hid hR1
  clear hR1
  have hBl := Lib.hid (fun W (h : Below w.heap.size w W) => hl'.out.later h)
  generalize hn0 : w.heap.size = n0 at *
  have hn0' := Lib.hid hn0
  clear hn0 hw1 hw2 hw3
  go_loopw [12] (fun i wr => ∃ k : Nat, k ≤ N ∧ i = .int .i64 k ∧ RootsAt n0 N N (fun j => if j < k then chunkL l j else zeroR) wr ∧ Below n0 w wr) (fun i _ => N - (intOf i).toNat)
  case atStart => exact ⟨0, by omega, rfl, hR1'.out.congr (fun i _ => if_neg (by omega)), hB1⟩
  case round =>
    obtain ⟨k, hk, rfl, hR2, hB2⟩ := hrel
    have hR2' := Lib.hid hR2
    clear hR2 hR1' hB1
    by_cases hlt : k < N
    · have hkL : 32 * k < L := by have := hN'.out; omega
      have hw4 : IntKind.i64.wrap (32 * (k : Int)) = ((32 * k : Nat) : Int) := by rw [IntKind.wrap_i64]; omega
      have hw5 : IntKind.i64.wrap ((k : Int) + 1) = ((k + 1 : Nat) : Int) := by rw [IntKind.wrap_i64]; omega
      have hlt' : ((k : Int) < (N : Int)) := by omega
      obtain ⟨bb, bo, rfl, _⟩ := hl'.out.cell 0 (by rw [hL'.out]; omega)
      go_wp2
      rename_i K hK
      refine wp_region_held (S := fun _ => True) (by kernel_rfl) ?_
      have hS : True := trivial
      have hB3 : Below n0 w { wr with drawn := wr.drawn + 1 } := hB2.drew
      refine takeL (i := 0) (v := (.slice (some ⟨n0, 0, none⟩) N N)) rfl (by kernel_rfl) (by kernel_rfl) (by kernel_rfl) (fun _ _ _ h => h) rfl (by assumption) (fun w' hS' => by go_simp) ?_
      simp only [Act.put, List.setIfInBounds_toArray, List.set_cons_zero, List.set_cons_succ]
      refine takeL (i := 1) (v := (.int .i64 (k : Int))) rfl (by kernel_rfl) (by kernel_rfl) (by kernel_rfl) (fun _ _ _ h => h) rfl (by assumption) (fun w' hS' => by go_simp) ?_
      simp only [Act.put, List.setIfInBounds_toArray, List.set_cons_zero, List.set_cons_succ]
      refine takeL (i := 2) (v := (.pointer (some ⟨n0, 32 * k, none⟩))) rfl (by kernel_rfl) (by kernel_rfl) (by kernel_rfl) (fun _ _ _ h => h) rfl (by assumption) (fun w' _ => run_index_slice w' 88 23 _ _ (by rfl) Tryd.underlying88 32 (row_size row_root) n0 0 N N (by rfl) .i64 k (by rfl) (by omega) _ (by omega)) ?_
      simp only [Act.put, List.setIfInBounds_toArray, List.set_cons_zero, List.set_cons_succ]
      refine takeL (i := 3) (v := (.slice (some ⟨n0, 32 * k, none⟩) 32 32)) rfl (by kernel_rfl) (by kernel_rfl) (by kernel_rfl) (fun _ _ _ h => h) rfl (by assumption) (fun w' _ => run_slice_arr w' 23 5 32 _ (by rfl) Tryd.underlying23 1 sz_u8 n0 (32 * k) (by rfl)) ?_
      simp only [Act.put, List.setIfInBounds_toArray, List.set_cons_zero, List.set_cons_succ]
      refine takeL (i := 4) (v := (.slice (some ⟨bb, bo, none⟩) L c)) rfl (by kernel_rfl) (by kernel_rfl) (by kernel_rfl) (fun _ _ _ h => h) rfl (by assumption) (fun w' hS' => by go_simp) ?_
      simp only [Act.put, List.setIfInBounds_toArray, List.set_cons_zero, List.set_cons_succ]
      refine takeL (i := 5) (v := (.int .i64 (k : Int))) rfl (by kernel_rfl) (by kernel_rfl) (by kernel_rfl) (fun _ _ _ h => h) rfl (by assumption) (fun w' hS' => by go_simp) ?_
      simp only [Act.put, List.setIfInBounds_toArray, List.set_cons_zero, List.set_cons_succ]
      refine takeL (i := 6) (v := (.int .i64 ((32 * k : Nat) : Int))) rfl (by kernel_rfl) (by kernel_rfl) (by kernel_rfl) (fun _ _ _ h => h) rfl (by assumption) (fun w' hS' => by go_simp) ?_
      simp only [Act.put, List.setIfInBounds_toArray, List.set_cons_zero, List.set_cons_succ]
      refine takeL (i := 7) (v := (.slice (some ⟨bb, bo + 32 * k, none⟩) (L - 32 * k) (c - 32 * k))) rfl (by kernel_rfl) (by kernel_rfl) (by kernel_rfl) (fun _ _ _ h => h) rfl (by assumption) (fun w' _ => run_slice_from w' 34 5 _ _ (by rfl) Tryd.underlying34 1 sz_u8 bb bo L c (32 * k) (by rfl) (by rfl) (by omega) (by omega) _ (by omega)) ?_
      simp only [Act.put, List.setIfInBounds_toArray, List.set_cons_zero, List.set_cons_succ]
      have hml : ((l.drop (32 * k)).take 32).length = Nat.min (L - 32 * k) 32 := by rw [List.length_take, List.length_drop, hL'.out, Nat.min_comm]
      have hmg : ∀ j, j < 32 → ((l.drop (32 * k)).take 32).getD j 0 = l.getD (32 * k + j) 0 := fun j hj => by
        simp only [List.getD, List.getElem?_take, if_pos hj, List.getElem?_drop]
      refine oneL (i := 8) rfl (by kernel_rfl) rfl (wp_copy_root _ _ rfl n0 N N k bb (bo + 32 * k) (L - 32 * k) (c - 32 * k) _ 32 rfl rfl (hR2'.out.block rfl) hlt ((l.drop (32 * k)).take 32) hml (fun j hj => ?_) (chunkL l k) (fun j hj => ?_) (fun W5 hR5 hx5 => ⟨trivial, ?_⟩))
      · have hj32 : j < 32 := by rw [hml] at hj; exact Nat.lt_of_lt_of_le hj (Nat.min_le_right _ _)
        have hjL : 32 * k + j < l.length := by rw [hml] at hj; rw [hL'.out]; have := Nat.lt_of_lt_of_le hj (Nat.min_le_left _ _); omega
        obtain ⟨b', o', e, hc'⟩ := (hl'.out.later (hn0'.out.symm ▸ hB3)).cell (32 * k + j) hjL
        cases e
        rw [hmg j hj32, Nat.add_assoc]
        exact hc'
      · rw [hmg j hj]
        unfold chunkL
        rw [if_pos hj, if_neg (Nat.lt_irrefl k)]
        by_cases c1 : j < ((l.drop (32 * k)).take 32).length
        · rw [if_pos c1]
        · rw [if_neg c1, List.getD, List.getElem?_eq_none]
          · rfl
          · rw [hml] at c1
            rw [hL'.out]
            have : Nat.min (L - 32 * k) 32 ≤ j := by omega
            rcases Nat.le_total (L - 32 * k) 32 with h | h
            · rw [show Nat.min (L - 32 * k) 32 = L - 32 * k from Nat.min_eq_left h] at this; omega
            · rw [show Nat.min (L - 32 * k) 32 = 32 from Nat.min_eq_right h] at this; omega
      refine wpAnyH_done (by kernel_rfl) ?_ _
      refine hK _ _ ?_
      clear hK K hml hmg hS
      simp only [Act.put]
      have hR6 := Lib.hid (hR5.congr (f' := fun j => if j < k + 1 then chunkL l j else zeroR) (fun i hi => by
        by_cases c1 : i = k
        · subst c1
          simp only [if_true, if_pos (Nat.lt_succ_self i)]
        · by_cases c2 : i < k
          · simp only [if_neg c1, if_pos c2, if_pos (show i < k + 1 by omega)]
          · simp only [if_neg c1, if_neg c2, if_neg (show ¬ i < k + 1 by omega)]))
      have hB6 := Lib.hid (hx5.below hB3 (Nat.le_refl _) (by have := hB2.size; have := hn0'.out; show n0 ≤ wr.heap.size; omega))
      clear hR5 hx5 hB3
      go_wp2
      exact ⟨⟨k + 1, by omega, by go_num, hR6.out, hB6.out⟩, by simp [intOf]; omega⟩
    · have e : k = N := by omega
      subst e
      have hq : (chunks l).length = k := by rw [chunks_length, hL'.out, hN'.out]
      go_wp2
      refine ret_t1 rfl (.slice (some ⟨n0, 0, none⟩) k k) rfl rfl ⟨⟨some ⟨n0, 0, none⟩, k, by rw [hq], ?_⟩, by rw [hn0'.out]; exact hB2⟩
      rw [hq]
      exact own_of_roots hR2'.out (by have := hN'.out; unfold maxLen; omega) (by rw [hn0'.out]; exact Nat.le_refl _) hq (fun i hi => by rw [chunks_leaf l i (by rw [hL'.out, hN'.out]; exact hi), if_pos hi])
end Go.Proofs.YtihelknkcomjpaaDoor
namespace Go.Proofs.YtihelknkcomjpaaDoor
open Go.RowKit BigFrame
set_option maxRecDepth 100000
theorem at_iaddr {P : Program} {ops : Array Oper} {Q : Exit → Act → World → Prop} {rest : List Oper} {a : Act} {w : World} {d : Option Tmp} {ty : TypeId} {pos : String} {af : Array Edge} {g : Option (Nat × Bool)} (t : TypeId) {x y : Operand} (h : wpList P ops Q (⟨d, .indexAddr t x y, ty, pos, af, g⟩ :: rest) a w) : wpList P ops Q (⟨d, .indexAddr t x y, ty, pos, af, g⟩ :: rest) a w := h
theorem run_build {P : Program} {ρ : Operand → Value} {o : Oper} {w : World} (t : TypeId) (ps : Array (Nat × Operand)) (ho : o.op = .build t ps) (v : Value) (h : (Instr.build t (ps.toList.map fun x => (x.1, ρ x.2)).toArray).run P w = .ok v w) :
    (execOp ρ o).run P w = .ok (.value v) w := by
  unfold execOp
  have e : (ps.map fun x => match x with | (i, x) => (i, ρ x)) = (ps.toList.map fun x => (x.1, ρ x.2)).toArray := by
    rw [← Array.toList_map]
  simp only [ho, e, Sem.run_bind, h, Result.andThen, Sem.run_pure]
/-! What Flags answers there. -/
theorem built_hash (va : Option Addr) (n c : Nat) (w : World) : (Instr.build 90 #[(0, .slice va n c)]).run Tryd.prog w = .ok (.agg (hashC (.slice va n c))) w := by kernel_rfl
theorem hashC_one (va : Option Addr) (n c : Nat) : (hashC (.slice va n c)).all (·.oneCell') = true := by kernel_rfl
theorem row_hash : rowB Tryd.prog 90 2 = true := by kernel_rfl
set_option maxHeartbeats 8000000 in
theorem hash_bytes {er : Int} (b d : Nat) (rs : List (Nat → Int)) (l : List Int) (va : Option Addr) (c : Nat) (w : World) (h : HashE er b rs w) (hT0 : Tabs w) (h3 : 3 ≤ b) (hl0 : Row w va .u8 l) (hc : l.length ≤ c) (hl1 : 1 ≤ l.length) (hl2 : l.length ≤ 70368744177) (hd : Dep ((l.length + 31) / 32) d) (hd40 : d ≤ 40) (hlen : rs.length ≤ 1099511627776) :
    Calls Tryd.prog 68 #[.pointer (some ⟨b, 0, none⟩), .slice va l.length c] w fun e w' => e = .returned (.tuple #[]) ∧ HashE er b (rs ++ [fullT d (leaf (chunks l))]) w' ∧ Below b w w' := by
  have hz := h.size
  have hrs := Lib.hid h.is
  obtain ⟨v, hb, hv⟩ := h.has
  have hb' := Lib.hid hb
  have hv' := Lib.hid hv
  have hlt := hv.lt
  clear hb hv h
  obtain ⟨r, hre⟩ : ∃ r, r = fullT d (leaf (chunks l)) := ⟨_, rfl⟩
  rw [← hre]
  have hre' := Lib.hid hre
  clear hre
  have hr := Lib.hid (show IsR r from hre'.out ▸ fullT_is d (leaf_is (chunks_is hl0.ok)))
  have hpk := Lib.hid (pack_any l va c w hl0 hc hl2)
  have hT := Lib.hid hT0
  have hci := Lib.hid (chunks_is hl0.ok)
  clear hl0 hT0
  go_enter Tryd.func68, Tryd.ntmps68
  go_wp2_with (first
    | ((with_reducible refine hpk.out.mono ?_)
       rintro e W ⟨⟨va', c', rfl, hO⟩, hbW⟩
       have hbW' := Lib.hid hbW
       have hO' := Lib.hid hO
       clear hbW hO)
    | ((with_reducible refine at_build 90 ?_); go_loud (refine wpList_value (by rfl) _ (run_build _ _ rfl _ (built_hash va' _ c' _)) ?_))
    | ((with_reducible refine at_alloc 90 ?_); go_loud (refine wpList_alloc_store rfl rfl 90 4 _ rfl rfl rfl (hashC (.slice va' (chunks l).length c')) rfl rfl (zeroOf Tryd.prog 90) (row_zero row_hash).1 (row_zero row_hash).2 (hashC_one _ _ _) ?_)
       have hcs := Lib.hid (heap_new W (hashC (.slice va' (chunks l).length c')) 90 W.heap.size rfl)
       have hbs := hbW'.out.size
       have hdn0 := (hash_done_gen W.heap.size w.heap.size d (chunks l) _ _ hcs.out (own_later hO'.out ((Below.refl _ _).alloc (Nat.le_refl _) _)) hci.out ((hT.out.below (show 3 ≤ w.heap.size by omega) hbW'.out).below (show 3 ≤ W.heap.size by omega) ((Below.refl _ _).alloc (Nat.le_refl _) _)) (by omega) (by rw [World.size_alloc]; omega) (by rw [chunks_length]; exact hd) (by rw [chunks_length]; omega) hd40)
       rw [← hre'.out] at hdn0
       have hdn := Lib.hid hdn0
       clear hdn0)
    | ((with_reducible refine hdn.out.mono ?_)
       rintro e W2 ⟨rfl, hb2⟩
       have hb2' := Lib.hid (hbW'.out.trans (((Below.refl _ _).alloc (show w.heap.size ≤ W.heap.size from hbs) _).trans hb2))
       clear hb2)
    | ((with_reducible refine at_alloc 23 ?_); go_loud (refine wpList_alloc_store rfl rfl 23 5 _ rfl rfl rfl (rootV r) rfl rfl (zeroOf Tryd.prog 23) (row_zero row_root).1 (row_zero row_root).2 (fcells_one _ _ _) ?_)))
  refine gen_world (TailW er b W2.heap.size v rs r w) ⟨heap_past _ _ _ _ ((hb2'.out.block b (by omega)).trans hb'.out), own_later (own_later hv'.out hb2'.out) ((Below.refl _ _).alloc (Nat.le_refl _) _), heap_new _ _ _ _ rfl, (hb2'.out.mono hz).alloc (Nat.le_trans hz hb2'.out.size) _, Nat.le_trans hz hb2'.out.size, by rw [World.size_alloc]; omega, fun k hk => Nat.lt_of_lt_of_le (hlt k hk).2 hb2'.out.size⟩ ?_
  clear hb2' hdn hcs hbs hO' hbW'
  generalize W2.heap.size = n at *
  clear W2
  intro W1 hW1
  clear hlt
  obtain ⟨kb, kv, kn, kB, kz, ks, kvk⟩ := hW1
  have hvn : v.ownBlock ≠ some n := fun e => by have := (kvk n e); omega
  refine wp_region_held (S := fun w' => w'.heap[n]? = some (.cells (rootV r) 23 (0, 0))) (by kernel_rfl) ?_
  have hS : ({ W1 with drawn := W1.drawn + 1 } : World).heap[n]? = some (.cells (rootV r) 23 (0, 0)) := kn
  have hB1 : Below (b + 1) w { W1 with drawn := W1.drawn + 1 } := kB.drew
  refine takeL (i := 0) (v := (.pointer (some ⟨b, 0, none⟩))) rfl (by kernel_rfl) (by kernel_rfl) (by kernel_rfl) (fun _ _ _ h => h) rfl (by assumption) (fun w' hS' => by go_simp) ?_
  simp only [Act.put, List.setIfInBounds_toArray, List.set_cons_zero, List.set_cons_succ]
  refine takeL (i := 1) (v := (.pointer (some ⟨b, 0, none⟩))) rfl (by kernel_rfl) (by kernel_rfl) (by kernel_rfl) (fun _ _ _ h => h) rfl (by assumption) (fun w' hS' => by go_simp) ?_
  simp only [Act.put, List.setIfInBounds_toArray, List.set_cons_zero, List.set_cons_succ]
  refine takeL (i := 2) (v := (.pointer (some ⟨b, 0, none⟩))) rfl (by kernel_rfl) (by kernel_rfl) (by kernel_rfl) (fun _ _ _ h => h) rfl (by assumption) (fun w' hS' => by go_simp) ?_
  simp only [Act.put, List.setIfInBounds_toArray, List.set_cons_zero, List.set_cons_succ]
  refine takeL (i := 3) (v := (.pointer (some ⟨b, 0, none⟩))) rfl (by kernel_rfl) (by kernel_rfl) (by kernel_rfl) (fun _ _ _ h => h) rfl (by assumption) (fun w' hS' => by go_simp) ?_
  simp only [Act.put, List.setIfInBounds_toArray, List.set_cons_zero, List.set_cons_succ]
  refine takeL (i := 5) (v := (.agg (rootV r))) rfl (by kernel_rfl) (by kernel_rfl) (by kernel_rfl) (fun _ _ _ h => h) rfl (by assumption) (fun w' hS' => run_load_box _ 23 _ (by rfl) n (by rfl) _ (rootV r) (0, 0) _ hS' Tryd.underlying23 rfl (by rw [row_size row_root]; simp [fcells])) ?_
  simp only [Act.put, List.setIfInBounds_toArray, List.set_cons_zero, List.set_cons_succ]
  refine pairL (i := 4) (k := 6) v (.slice (some ⟨W1.heap.size, 0, none⟩) 1 1) (Wn := ({ W1 with drawn := W1.drawn + 1 } : World).alloc (.cells (rootV r) 23)) rfl rfl (by kernel_rfl) (by kernel_rfl) (by kernel_rfl) rfl rfl rfl rfl (run_load_cell _ 88 _ (by rfl) ⟨b, 0, none⟩ (by rfl) v (cell_hash kb 0) _ Tryd.underlying88 rfl) (run_load_cell _ 88 _ (by rfl) ⟨b, 0, none⟩ (by rfl) v (cell_hash (heap_past _ _ _ _ kb) 0) _ Tryd.underlying88 rfl) (run_bslice_root _ _ (by rfl) r (by rfl)) (run_bslice_root _ _ (by rfl) r (by rfl)) kn (heap_past _ _ _ _ kn) rfl rfl ?_
  simp only [Act.put, List.setIfInBounds_toArray, List.set_cons_zero, List.set_cons_succ]
  refine oneL (i := 7) rfl (by kernel_rfl) rfl (wp_appS (.tmp 18) (.tmp 20) 88 23 rfl Tryd.underlying88 (.agg (rep 32)) 32 32 info_root rfl (by decide) (b + 1) rs.length v (rcells rs) rfl (own_later (show W1.ownsRow (b + 1) 23 32 v rs.length (rcells rs) from kv) ((Below.refl _ _).drew.alloc (by exact Nat.le_refl _) _)) ⟨W1.heap.size, 0, none⟩ 1 1 rfl (fcells 32 (fun _ => .u8) r) (by rw [fcells_length]) (range_whole (heap_alloc_last _ _)) rfl fcells_mem (by omega) (by omega) (by show b + 1 ≤ ((World.alloc _ _).heap.size); rw [World.size_alloc]; show b + 1 ≤ W1.heap.size + 1; omega) (Nat.le_refl _) (hB1.alloc (by show b + 1 ≤ W1.heap.size; omega) _) (fun v1 W2 h1 b1 z1 o1 _ => ⟨(o1 n (by rw [World.size_alloc]; show n < W1.heap.size + 1; omega) (Ne.symm hvn)).trans (heap_past _ _ _ _ kn), ?_⟩))
  rw [show rs.length + 1 = (rs ++ [r]).length by simp, show rcells rs ++ fcells 32 (fun _ => .u8) r = rcells (rs ++ [r]) by rw [rcells_append, rcells_one]] at h1
  obtain ⟨va1, c1, e1, _⟩ := own_form h1
  subst e1
  simp only [Act.put, List.setIfInBounds_toArray, List.set_cons_zero, List.set_cons_succ]
  have hS : W2.heap[n]? = some (.cells (rootV r) 23 (0, 0)) := (o1 n (by rw [World.size_alloc]; show n < W1.heap.size + 1; omega) (Ne.symm hvn)).trans (heap_past _ _ _ _ kn)
  refine takeL (i := 8) (v := (.pointer (some ⟨b, 0, none⟩))) rfl (by kernel_rfl) (by kernel_rfl) (by kernel_rfl) (fun _ _ _ h => h) rfl (by assumption) (fun w' hS' => by go_simp) ?_
  simp only [Act.put, List.setIfInBounds_toArray, List.set_cons_zero, List.set_cons_succ]
  refine takeL (i := 9) (v := (.pointer (some ⟨b, 0, none⟩))) rfl (by kernel_rfl) (by kernel_rfl) (by kernel_rfl) (fun _ _ _ h => h) rfl (by assumption) (fun w' hS' => by go_simp) ?_
  simp only [Act.put, List.setIfInBounds_toArray, List.set_cons_zero, List.set_cons_succ]
  refine oneL (i := 10) rfl (by kernel_rfl) rfl (wp_store1 88 _ _ rfl b 0 rfl _ rfl rfl sz_rs _ _ ((b1.block b (by omega)).trans hb'.out) (by simp [hashE]) (fun W3 hC3 hx3 => ⟨(hx3.block n (block_lt hS) (by omega)).trans hS, ?_⟩))
  refine wpAnyH_done (by kernel_rfl) ?_ _
  exact ret_none rfl rfl ⟨rfl, ⟨fun x hx => by
    rcases List.mem_append.1 hx with hx | hx
    · exact hrs.out x hx
    · rw [List.mem_singleton.1 hx]; exact hr.out, _, hC3, own_apart h1 hx3 (by omega)⟩, id (hx3.below (b1.mono (by omega)) (Nat.le_refl _) (by omega))⟩
end Go.Proofs.YtihelknkcomjpaaDoor
