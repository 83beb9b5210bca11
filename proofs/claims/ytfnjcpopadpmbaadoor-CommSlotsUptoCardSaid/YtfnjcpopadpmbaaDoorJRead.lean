/- Sum of the reference. -/
/- Two of the reference: the same hash. -/
/- Numbers as eight bytes, the least first: word.Bytes, pharosref01.Bytes. -/
/- Eight bytes as a number: word.Read, pharosref01.Read; a number's bytes as a slice: number. -/
/- A number's lowest four bytes. -/
import Derived.Test.YtfnjcpopadpmbaaDoorJPadded
set_option linter.unusedVariables false
set_option linter.unusedSimpArgs false
set_option linter.unnecessarySimpa false
namespace Go.Proofs.YtfnjcpopadpmbaaDoor
open Go.RowKit BigFrame
set_option maxRecDepth 100000
/-- The words behind k blocks. -/
def shaFold (s : Hs) (f : Nat → Int) : Nat → Hs
  | 0 => s
  | k + 1 => (shaFold s f k).mix (msgW fun j => f (64 * k + j))
theorem shaFold_succ (s : Hs) (f : Nat → Int) (k : Nat) : shaFold s f (k + 1) = (shaFold s f k).mix (msgW fun j => f (64 * k + j)) := rfl
theorem Hs.cells_size (s : Hs) : s.cells.toArray.size = 8 := rfl
theorem row_cells (s : Hs) : (Tryd.prog.info? 100).map (·.size) = some s.cells.toArray.size := by rw [Hs.cells_size]; exact row_size row_8w
def shaSum (l : List Int) : Nat → Int := rootB (shaFold shaIv (fun j => (padL l).getD j 0) ((padL l).length / 64))
theorem be8_is (n : Nat) : ∀ m ∈ be8 n, CK.ok .u8 m := by
  intro m hm
  obtain ⟨j, _, rfl⟩ := List.mem_map.1 hm
  exact ⟨by omega, by omega⟩
theorem padL_is {l : List Int} (h : ∀ m ∈ l, CK.ok .u8 m) : ∀ m ∈ padL l, CK.ok .u8 m := by
  intro m hm
  unfold padL at hm
  simp only [List.mem_append, List.mem_singleton] at hm
  rcases hm with ((hm | hm) | hm) | hm
  · exact h m hm
  · subst hm; exact ⟨by decide, by decide⟩
  · obtain rfl := List.eq_of_mem_replicate hm; exact ⟨by decide, by decide⟩
  · exact be8_is _ m hm
theorem padL_length (l : List Int) : (padL l).length = l.length + 1 + zerosN l.length + 8 := by
  simp [padL, be8]
  omega
theorem padL_64 (l : List Int) : (padL l).length % 64 = 0 ∧ 64 ≤ (padL l).length := by
  rw [padL_length]
  have := zerosN_lt l.length
  omega
theorem wp_store_row {P : Program} {o : Oper} {a : Act} {w : World} {K : Act → World → Prop} {Q : Exit → Act → World → Prop} (ty : TypeId) (x y : Operand) (ho : o.op = .store ty x y) (b : Nat) (hx : a.eval x = .pointer (some ⟨b, 0, none⟩)) (cs : Array Value) (hy : a.eval y = .agg cs) (h1 : cs.all (·.oneCell') = true)
    (hz : (P.info? ty).map (·.size) = some cs.size) (C : Array Value) (t : TypeId) (hC : w.heap[b]? = some (.cells C t (0, 0))) (hk : C.size = cs.size)
    (h : ∀ W, W.heap[b]? = some (.cells cs t (0, 0)) → Apart b w W → K (a.put o.dst undef) W) : o.wp P a w K Q := by
  have ht : w.there b 0 cs.size := fun j hj => by
    refine ⟨?_, Joins.unfrozen_of_block hC _⟩
    rw [cell_of_row w b (0 + j) C _ _ hC, Nat.zero_add, Array.getElem?_eq_getElem (by omega)]
    rfl
  have hs := run_storeAt_mid (P := P) w b 0 ty cs ht hz h1
  have hr := World.rangeAt_setCells_same w b 0 cs.toList (by simpa using ht)
  have hbl : (w.setCells b 0 cs.toList).heap[b]? = some (.cells cs t (0, 0)) := by
    have key : ∀ (vs : List Value) (o : Nat) (w : World) (C : Array Value), w.heap[b]? = some (.cells C t (0, 0)) → ∃ C' : Array Value, (w.setCells b o vs).heap[b]? = some (.cells C' t (0, 0)) ∧ C'.size = C.size := by
      intro vs
      induction vs with
      | nil => intro o w C h; exact ⟨C, h, rfl⟩
      | cons v vs ih =>
        intro o w C h
        obtain ⟨C', h1, h2⟩ := ih (o + 1) _ _ (Joins.block_setCell (i := o) h v)
        exact ⟨C', h1, by simpa using h2⟩
    obtain ⟨C', h1, h2⟩ := key cs.toList 0 w C hC
    rw [h1]
    congr 2
    apply Array.ext_getElem?
    intro j
    by_cases c : j < cs.size
    · have := hr j cs[j] (by simp [c])
      rw [Nat.zero_add, cell_of_row _ b j C' _ _ h1] at this
      rw [this, Array.getElem?_eq_getElem c]
    · rw [Array.getElem?_eq_none (by omega), Array.getElem?_eq_none (by omega)]
  unfold Oper.wp execOp
  simp only [ho, hx, hy, Sem.run_bind, hs, Result.andThen, Sem.run_pure, Oper.upon_skip]
  exact h _ hbl ((Apart.refl _ _).setCells b 0 _ (Or.inl rfl))
theorem wpList_store_row {P : Program} {ops : Array Oper} {rest : List Oper} {o : Oper} {a : Act} {w : World} {Q : Exit → Act → World → Prop} (ty : TypeId) (x y : Operand) (hg : o.guard = none) (ho : o.op = .store ty x y) (b : Nat) (hx : a.eval x = .pointer (some ⟨b, 0, none⟩)) (cs : Array Value) (hy : a.eval y = .agg cs) (h1 : cs.all (·.oneCell') = true)
    (hz : (P.info? ty).map (·.size) = some cs.size) (C : Array Value) (t : TypeId) (hC : w.heap[b]? = some (.cells C t (0, 0))) (hk : C.size = cs.size)
    (h : ∀ W, W.heap[b]? = some (.cells cs t (0, 0)) → Apart b w W → wpList P ops Q rest (a.put o.dst undef) W) : wpList P ops Q (o :: rest) a w :=
  wpList_plain hg fun _ hK => wp_store_row ty x y ho b hx cs hy h1 hz C t hC hk fun W h2 h3 => hK _ _ (h W h2 h3)
theorem wpStill_value {P : Program} {ops : Array Oper} {w : World} {Q : Act → Prop} {a : Act} {o : Oper} {rest : List Oper} (hw : Region.wanted o (yielded ops a.tmps) = true) (v : Value) (he : (execOp a.eval o).run P w = .ok (.value v) w)
    (h : wpStill P ops w Q rest (a.put o.dst v)) : wpStill P ops w Q (o :: rest) a := by
  refine wpStill_step fun K hK => ?_
  rw [if_pos hw]
  unfold Oper.still
  rw [he, Oper.stillUpon_value]
  exact hK _ h
theorem list_isB {P : List Int} (h : ∀ m ∈ P, CK.ok .u8 m) (i : Nat) : IsB (P.getD i 0) := by
  by_cases c : i < P.length
  · have : P.getD i 0 ∈ P := by simp [List.getD, c]
    exact h _ this
  · have e : P.getD i 0 = 0 := by simp [List.getD, c]
    rw [e]
    exact ⟨by decide, by decide⟩
/-- The blocks of Sum: the result, the words, the padded message. -/
structure SumW (n g : Nat) (w : World) (s : Hs) (P : List Int) (W : World) : Prop where
  below : Below n w W
  size : n + 1 + 1 ≤ W.heap.size
  hg : n + 1 + 1 ≤ g
  hR : W.heap[n]? = some (.cells (rep 32) 24 (0, 0))
  hS : W.heap[n + 1]? = some (.cells s.cells.toArray 100 (0, 0))
  hP : ∀ i, i < P.length → W.cell? ⟨g, i, none⟩ = some (.int .u8 (P.getD i 0))
theorem SumW.words {n g : Nat} {w : World} {s s' : Hs} {P : List Int} {W W' : World} (h : SumW n g w s P W) (hx : Apart (n + 1) W W') (hs : W'.heap[n + 1]? = some (.cells s'.cells.toArray 100 (0, 0))) : SumW n g w s' P W' := by
  have h1 := h.size
  have h2 := h.hg
  exact ⟨hx.below h.below (by omega) (by omega), by have := hx.size; omega, h.hg, (hx.block _ (by omega) (by omega)).trans h.hR, hs, fun i hi => (hx.cell (p := ⟨g, i, none⟩) (block_lt_of_cell (h.hP i hi)) (by simp only; omega)).trans (h.hP i hi)⟩
theorem SumW.drawn {n g : Nat} {w : World} {s : Hs} {P : List Int} {W : World} (h : SumW n g w s P W) (k : Nat) : SumW n g w s P { heap := W.heap, tape := W.tape, drawn := k, os := W.os, output := W.output } :=
  ⟨⟨h.below.os, h.below.tape, h.below.output, h.below.size, h.below.block⟩, h.size, h.hg, h.hR, h.hS, h.hP⟩
theorem SumW.later {n g : Nat} {w : World} {s : Hs} {P : List Int} {W W' : World} (h : SumW n g w s P W) (hx : Below W.heap.size W W') : SumW n g w s P W' := by
  have h1 := h.size
  exact ⟨h.below.trans (hx.mono (by omega)), by have := hx.size; omega, h.hg, (hx.block _ (by omega)).trans h.hR, (hx.block _ (by omega)).trans h.hS, fun i hi => (hx.cell (p := ⟨g, i, none⟩) (block_lt_of_cell (h.hP i hi))).trans (h.hP i hi)⟩
theorem OwnB.at {base : Nat} {v : Value} {l : List Int} {w : World} (h : OwnB base v l w) (hp : 0 < l.length) : ∃ g cap, v = .slice (some ⟨g, 0, none⟩) l.length cap ∧ base ≤ g ∧ l.length ≤ cap ∧ cap ≤ maxLen ∧ ∀ i, i < l.length → w.cell? ⟨g, i, none⟩ = some (.int .u8 (l.getD i 0)) := by
  rcases h.2 with ⟨_, h2⟩ | ⟨g, cap, cur, h1, h2, h3, h4, h5, h6, h7⟩
  · omega
  · refine ⟨g, cap, h1, h2, h4, h5, fun i hi => ?_⟩
    rw [cell_of_row w g i cur _ _ h3]
    have e : (cur.toList.take (l.length * 1))[i]? = some (.int .u8 (l.getD i 0)) := by
      rw [h7]
      simp [List.getD, hi]
    rw [List.getElem?_take_of_lt (by omega)] at e
    simpa using e
theorem sum_begin {w W : World} {C0 C1 : Array Value} {g : Nat} {P : List Int} (hB : Below ((w.alloc (.cells C0 24)).alloc (.cells C1 100)).heap.size ((w.alloc (.cells C0 24)).alloc (.cells C1 100)) W) (hg : ((w.alloc (.cells C0 24)).alloc (.cells C1 100)).heap.size ≤ g)
    (hc : ∀ i, i < P.length → W.cell? ⟨g, i, none⟩ = some (.int .u8 (P.getD i 0))) (h0 : C0 = rep 32 := by rfl) (h1 : C1 = shaIv.cells.toArray := by rfl) : SumW w.heap.size g w shaIv P W := by
  subst h0 h1
  simp only [World.size_alloc] at hB hg
  have hs := hB.size
  simp only [World.size_alloc] at hs
  exact ⟨(((Below.refl _ _).alloc (Nat.le_refl _) _).alloc (by simp) _).trans (hB.mono (by omega)), by omega, hg, (hB.block _ (by omega)).trans (heap_past _ _ _ _ (heap_new _ _ _ _ rfl)), (hB.block _ (by omega)).trans (heap_new _ _ _ _ (by simp)), hc⟩
def RootP (n : Nat) (s : Hs) (k : Nat) (w1 wr : World) : Prop :=
  ∃ O : Array Value, wr.heap[n]? = some (.cells O 24 (0, 0)) ∧ O.size = 32 ∧ (∀ j, j < k → O[j]? = some (.int .u8 (rootB s j))) ∧ Below n w1 wr
theorem RootP.step {n : Nat} {s : Hs} {k : Nat} {w1 W : World} {O : Array Value} (h : ∀ j, j < k → O[j]? = some (.int .u8 (rootB s j))) (hs : O.size = 32) (hk : k < 32) (hC : W.heap[n]? = some (.cells (O.setIfInBounds k (.int .u8 (rootB s k))) 24 (0, 0))) (hB : Below n w1 W) : RootP n s (k + 1) w1 W := by
  refine ⟨_, hC, by simp [hs], fun j hj => ?_, hB⟩
  by_cases e : j = k
  · subst e
    simp [hs, hk]
  · rw [Array.getElem?_setIfInBounds_ne (Ne.symm e)]
    exact h j (by omega)
theorem some_if {p : Prop} [Decidable p] (a b : Addr) : some (if p then a else b) = if p then some a else some b := by split <;> rfl
set_option maxHeartbeats 4000000 in
theorem sum_any (l : List Int) (va : Option Addr) (c : Nat) (w : World) (hl : l.length ≤ 1099511627776) (hr : Row w va .u8 l) (hva : va = none → c = 0) (hT : Tabs w) :
    Calls Tryd.prog 40 #[.slice va l.length c] w fun e w' => e = .returned (.agg (rootV (shaSum l))) ∧ Below w.heap.size w w' := by
  have hr' := Lib.hid hr
  have hva' := Lib.hid hva
  have hT' := Lib.hid hT
  have hsum : shaSum l = rootB (shaFold shaIv (fun j => (padL l).getD j 0) ((padL l).length / 64)) := rfl
  rw [hsum]
  clear hsum
  have hp0 := fun W h => padded_any l va c W hl (hr.later h) hva
  have h64 := padL_64 l
  have hNl : (padL l).length ≤ 1099511627840 := by rw [padL_length]; have := zerosN_lt l.length; omega
  have hok := Lib.hid (padL_is hr.ok)
  generalize padL l = P at *
  have hp := Lib.hid hp0
  generalize hf0 : (fun j => P.getD j 0) = f
  have hf := Lib.hid (fun j => congrFun hf0 j)
  clear hf0
  clear hr hva hT hp0
  go_enter Tryd.func40, Tryd.ntmps40
  go_wp2_with (
    ((with_reducible refine (hp.out _ (((Below.refl _ _).alloc (Nat.le_refl _) _).alloc (by simp) _)).mono ?_)
     rintro e W1 ⟨v, rfl, hO, hB1⟩
     obtain ⟨g, cap, rfl, hg, hcap, hcap2, hcells⟩ := hO.at (by omega)
     have hW1 := Lib.hid (sum_begin hB1 hg hcells)
     clear hO hB1 hg hcells))
  clear hp hr' hva'
  unfold maxLen at hcap2
  go_loopw [4] (fun p wr => ∃ (k : Nat) (ad : Addr) (cp : Nat), 64 * k ≤ P.length ∧ p = .slice (some ad) (P.length - 64 * k) cp ∧ P.length - 64 * k ≤ cp ∧ cp ≤ cap ∧ (64 * k < P.length → ad = ⟨g, 64 * k, none⟩) ∧ SumW w.heap.size g w (shaFold shaIv f k) P wr) (fun p _ => lenOf p)
  case atStart => exact ⟨0, _, cap, by omega, rfl, by omega, by omega, fun _ => rfl, hW1.out⟩
  case round =>
    obtain ⟨k, ad, cp, hk, rfl, hc1, hc2, had, hW⟩ := hrel
    by_cases hlt : 64 * k < P.length
    · have hr64 : 64 ≤ P.length - 64 * k := by omega
      obtain rfl := had hlt
      have hlen : 64 * k + (P.length - 64 * k) = P.length := by omega
      have hNr : P.length - 64 * k ≤ 1099511627840 := by omega
      have hWh := Lib.hid hW
      clear hW had
      generalize hrr : P.length - 64 * k = r at *
      have hr0 : 0 < r := by omega
      have hcp : (64 : Int) ≤ cp := by omega
      have hrI : (64 : Int) ≤ r := by omega
      go_wp2
      refine wp_region_still_tail 3 (by kernel_rfl) (by kernel_rfl) ?_
      simp only [List.take_succ_cons, List.take_zero, List.drop_succ_cons, List.drop_zero]
      refine wpStill_value (by rfl) _ (run_load_box _ 100 _ (by rfl) (w.heap.size + 1) (by rfl) _ _ (0, 0) _ hWh.out.hS Tryd.underlying100 rfl (row_cells _)) ?_
      simp only [Act.put, List.setIfInBounds_toArray, List.set_cons_zero, List.set_cons_succ]
      still_step
      still_step
      refine wpStill_nil ?_
      refine gen_l (SumW w.heap.size g w (shaFold shaIv f k) P) (hWh.out.drawn _) ?_
      clear hWh
      intro W2 hW2
      have hblk := Lib.hid (block_any g (64 * k) 64 cp (fun j => f (64 * k + j)) (shaFold shaIv f k) W2 (by decide) (by decide) (hT'.out.below hT'.out.size hW2.below) (fun j hj => ⟨(hW2.hP (64 * k + j) (by omega)).trans (by rw [← hf.out]), by rw [← hf.out]; exact list_isB hok.out (64 * k + j)⟩) (block_lt_of_cell (hW2.hP 0 (by omega))))
      have hW2' := Lib.hid hW2
      clear hW2
      go_wp2_with (first
        | ((with_reducible refine hblk.out.mono ?_); rintro e W3 ⟨rfl, hb3⟩
           have hW3 := Lib.hid (hW2'.out.later hb3))
        | ((with_reducible refine at_store 100 ?_); go_loud (refine wpList_store_row 100 _ _ rfl rfl (w.heap.size + 1) rfl _ rfl (Hs.cells_one _) (row_cells _) _ 100 hW3.out.hS ((Hs.cells_size _).trans (Hs.cells_size _).symm) ?_)
           intro W4 hC4 hA4
           have hW4 := Lib.hid (hW3.out.words (s' := shaFold shaIv f (k + 1)) hA4 (by rw [shaFold_succ]; exact hC4))))
      refine ⟨⟨k + 1, _, cp - 64, by omega, by rw [show P.length - 64 * (k + 1) = r - 64 from by omega, ← some_if], by omega, by omega, fun h => ?_, hW4.out⟩, ?_⟩
      · rw [if_neg (by omega)]
        rfl
      · show r - 64 < r
        omega
    · have e : 64 * k = P.length := by omega
      have hkk : P.length / 64 = k := by omega
      rw [show P.length - 64 * k = 0 from by omega] at *
      have hWh := Lib.hid hW
      clear hW had
      go_wp2
      have hfin := Lib.hid (show rootV (rootB (shaFold shaIv f (P.length / 64))) = rootV (rootB (shaFold shaIv f k)) by rw [hkk])
      clear hkk e hk h64 hcap hc1 hc2
      generalize shaFold shaIv f k = s at *
      generalize wr = wo at *
      have hsz := hWh.out.size
      refine gen_world (RootP wo.heap.size s 0 wo) ⟨_, heap_new _ _ _ _ rfl, rfl, fun j hj => absurd hj (by omega), (Below.refl _ _).alloc (Nat.le_refl _) _⟩ ?_
      intro W0 hI0
      go_loopw [6] (fun i W => ∃ k : Nat, k ≤ 32 ∧ i = .int .i64 k ∧ RootP wo.heap.size s k wo W) (fun i _ => 32 - (intOf i).toNat)
      case atStart => exact ⟨0, by omega, rfl, hI0⟩
      case round =>
        obtain ⟨j, hj, rfl, O, hO, hOs, hOc, hB⟩ := hrel
        clear hI0
        by_cases hlt2 : j < 32
        · have hx := (hB.cell (p := ⟨w.heap.size + 1, j / 4, none⟩) (by simp only; omega)).trans ((cell_of_row wo _ (j / 4) _ _ _ hWh.out.hS).trans (Hs.cells_get s (j / 4) (by omega)))
          have hq1 : (j : Int) / 4 = ((j / 4 : Nat) : Int) := by omega
          have hm1 : (j : Int) % 4 = ((j % 4 : Nat) : Int) := by omega
          have hw1 : IntKind.i64.wrap (8 * ((j % 4 : Nat) : Int)) = ((8 * (j % 4) : Nat) : Int) := by rw [IntKind.wrap_i64]; omega
          have hw2 : IntKind.i64.wrap (24 - ((8 * (j % 4) : Nat) : Int)) = ((24 - 8 * (j % 4) : Nat) : Int) := by rw [IntKind.wrap_i64]; omega
          have hw3 : IntKind.u64.wrap ((24 - 8 * (j % 4) : Nat) : Int) = ((24 - 8 * (j % 4) : Nat) : Int) := by rw [IntKind.wrap_u64]; omega
          have hv : IntKind.u8.wrap (wi (s.at (j / 4)) / 2 ^ (24 - 8 * (j % 4))) = rootB s j := by rw [IntKind.wrap_u8]; rfl
          have lq : ((j / 4 : Nat) : Int) < 8 := by omega
          have lj : (j : Int) < 32 := by omega
          have lsh : ((24 - 8 * (j % 4) : Nat) : Int) < 32 := by omega
          have gO := Lib.hid hO
          have gOc := Lib.hid hOc
          have gB := Lib.hid hB
          clear hO hOc hB
          generalize 24 - 8 * (j % 4) = sh at *
          generalize 8 * (j % 4) = m8 at *
          generalize j % 4 = m4 at *
          generalize j / 4 = q at *
          go_wp2_with (
            ((with_reducible refine at_store 5 ?_); go_loud (refine wpList_store_gen 5 _ _ rfl rfl wo.heap.size j rfl .u8 _ rfl (by kernel_rfl) O 24 gO.out (by omega) (Nat.le_refl _) gB.out (fun W5 hC5 hB5 => ?_))))
          exact ⟨⟨j + 1, by omega, by go_num, RootP.step gOc.out hOs hlt2 hC5 hB5⟩, by simp [intOf]; omega⟩
        · have e : j = 32 := by omega
          subst e
          have hE := cells_eq (kd := fun _ => .u8) hOs (fun i hi => hOc i hi)
          have hR := (hB.block w.heap.size (by omega)).trans hWh.out.hR
          have hO' := Lib.hid (hE ▸ hO)
          have hR' := Lib.hid hR
          have hB' := Lib.hid (hWh.out.below.trans (hB.mono (by omega)))
          clear hO hOc hR hB hE hOs
          go_wp2_with (first
            | ((with_reducible refine at_load 24 ?_); refine wpList_value (by rfl) _ (run_load_box _ 24 _ (by rfl) wo.heap.size (by rfl) _ _ (0, 0) _ hO'.out Tryd.underlying24 rfl (by rw [row_size row_root]; simp [fcells])) ?_)
            | ((with_reducible refine at_store 24 ?_); refine wpList_store_row_gen 24 _ _ rfl rfl w.heap.size rfl _ rfl (fcells_one _ _ _) (by rw [row_size row_root]; simp [fcells]) _ 24 hR'.out (by simp [fcells]) (Nat.le_refl _) hB'.out (fun W9 hW9 hBW _ => ?_)))
          refine ret_cell rfl w.heap.size 0 (fcells 32 (fun _ => .u8) (rootB s)) _ rfl hW9 Tryd.underlying24 rfl (by rw [row_size row_root, fcells_length]) rfl ⟨?_, hBW⟩
          rw [hfin.out]
end Go.Proofs.YtfnjcpopadpmbaaDoor
namespace Go.Proofs.YtfnjcpopadpmbaaDoor
open Go.RowKit BigFrame
set_option maxRecDepth 100000
theorem shaW_congr {M M' : Nat → W32} (h : ∀ t, t < 16 → M t = M' t) (t : Nat) : shaW M t = shaW M' t := by
  induction t using Nat.strongRecOn with
  | _ t ih =>
    by_cases c : t < 16
    · rw [shaW_lo _ _ c, shaW_lo _ _ c, h t c]
    · obtain ⟨m, rfl⟩ : ∃ m, t = m + 16 := ⟨t - 16, by omega⟩
      rw [shaW_hi, shaW_hi, ih (m + 14) (by omega), ih (m + 9) (by omega), ih (m + 1) (by omega), ih m (by omega)]
theorem Hs.mix_congr (s : Hs) {M M' : Nat → W32} (h : ∀ t, t < 16 → M t = M' t) : s.mix M = s.mix M' := by
  have e : ∀ t, s.rnds M t = s.rnds M' t := fun t => by
    induction t with
    | zero => rfl
    | succ t ih => show (s.rnds M t).rnd _ _ = (s.rnds M' t).rnd _ _; rw [ih, shaW_congr h]
  unfold Hs.mix
  rw [e]
theorem msgW_congr {f g : Nat → Int} (h : ∀ j, j < 64 → f j = g j) (t : Nat) (ht : t < 16) : msgW f t = msgW g t := by
  unfold msgW
  rw [h _ (by omega), h _ (by omega), h _ (by omega), h _ (by omega)]
/-- A root's bytes as a list. -/
def rootL (a : Nat → Int) : List Int := (List.range 32).map a
theorem rootL_length (a : Nat → Int) : (rootL a).length = 32 := by simp [rootL]
theorem rootL_get (a : Nat → Int) (j : Nat) (h : j < 32) : (rootL a).getD j 0 = a j := by simp [rootL, List.getD, h]
theorem rootL_ok {a : Nat → Int} (h : IsR a) : ∀ m ∈ rootL a, CK.ok .u8 m := by
  intro m hm
  obtain ⟨j, hj, rfl⟩ := List.mem_map.1 hm
  exact h j (by simpa using hj)
theorem run_build0 (w : World) : (Instr.buildSlice 39 0 #[]).run Tryd.prog w = .ok (.slice (some ⟨w.heap.size, 0, none⟩) 0 0) (w.alloc (.cells #[] 5)) := by kernel_rfl
theorem wp_build0 {o : Oper} {a : Act} {w : World} {K : Act → World → Prop} {Q : Exit → Act → World → Prop} (ho : o.op = .buildSlice 39 0 #[]) (h : K (a.put o.dst (.slice (some ⟨w.heap.size, 0, none⟩) 0 0)) (w.alloc (.cells #[] 5))) : o.wp Tryd.prog a w K Q := by
  unfold Oper.wp execOp
  have e : (#[] : Array (Nat × Operand)).map (fun x => match x with | (i, x) => (i, a.eval x)) = #[] := by simp
  simp only [ho, e, Sem.run_bind, run_build0 w, Result.andThen_ok]
  exact h
theorem row_root_at {w : World} {b : Nat} {a : Nat → Int} (h : w.heap[b]? = some (.cells (rootV a) 24 (0, 0))) (ha : IsR a) : Row w (some ⟨b, 0, none⟩) .u8 (rootL a) := by
  refine ⟨fun i hi => ⟨b, 0, rfl, ?_⟩, rootL_ok ha⟩
  have hi' : i < 32 := by rw [rootL_length] at hi; exact hi
  rw [cell_of_row w b (0 + i) _ _ _ h, Nat.zero_add, List.getElem?_toArray, fcells_get _ _ _ _ hi', rootL_get a i hi']
end Go.Proofs.YtfnjcpopadpmbaaDoor
namespace Go.Proofs.YtfnjcpopadpmbaaDoor
open Go.RowKit BigFrame
set_option maxRecDepth 100000
/-- Byte j of a number. -/
def leB (n : Int) (j : Nat) : Int := n / (2 : Int) ^ (8 * j) % 256
theorem leB_is (n : Int) (j : Nat) : IsB (leB n j) := by
  unfold IsB leB
  omega
abbrev numV (n : Int) : Array Value := (fcells 8 (fun _ => .u8) (leB n)).toArray
theorem row_b8 : rowB Tryd.prog 90 8 = true := by kernel_rfl
def NumP (n : Nat) (m : Int) (k : Nat) (w1 wr : World) : Prop :=
  ∃ O : Array Value, wr.heap[n]? = some (.cells O 90 (0, 0)) ∧ O.size = 8 ∧ (∀ j, j < k → O[j]? = some (.int .u8 (leB m j))) ∧ Below n w1 wr
theorem NumP.step {n : Nat} {m : Int} {k : Nat} {w1 W : World} {O : Array Value} (h : ∀ j, j < k → O[j]? = some (.int .u8 (leB m j))) (hs : O.size = 8) (hk : k < 8) (hC : W.heap[n]? = some (.cells (O.setIfInBounds k (.int .u8 (leB m k))) 90 (0, 0))) (hB : Below n w1 W) : NumP n m (k + 1) w1 W := by
  refine ⟨_, hC, by simp [hs], fun j hj => ?_, hB⟩
  by_cases e : j = k
  · subst e
    simp [hs, hk]
  · rw [Array.getElem?_setIfInBounds_ne (Ne.symm e)]
    exact h j (by omega)
set_option maxHeartbeats 4000000 in
theorem bytes_any (m : Int) (w : World) :
    Calls Tryd.prog 34 #[.int .u64 m] w fun e w' => e = .returned (.agg (numV m)) ∧ Below w.heap.size w w' := by
  obtain ⟨w1, hw1⟩ : ∃ w1, w1 = w.alloc (.cells (rep 8) 90) := ⟨_, rfl⟩
  have hb1 : Below w.heap.size w w1 := by rw [hw1]; exact (Below.refl _ _).alloc (Nat.le_refl _) _
  have hr1 : w1.heap[w.heap.size]? = some (.cells (rep 8) 90 (0, 0)) := by rw [hw1]; exact heap_alloc_last w _
  have hs1 : w1.heap.size = w.heap.size + 1 := by rw [hw1]; simp
  go_enter Tryd.func34, Tryd.ntmps34
  go_wp2
  refine gen_world (NumP (w.heap.size + 1) m 0 w1) ⟨_, heap_new _ _ _ _ (by simp), rfl, fun j hj => absurd hj (by omega), by rw [← hs1, hw1]; exact (Below.refl _ _).alloc (Nat.le_refl _) _⟩ ?_
  clear hw1
  intro W0 hI0
  go_loopw [5] (fun i wr => ∃ k : Nat, k ≤ 8 ∧ i = .int .i64 k ∧ NumP (w.heap.size + 1) m k w1 wr) (fun i _ => 8 - (intOf i).toNat)
  case atStart => exact ⟨0, by omega, rfl, hI0⟩
  case round =>
    obtain ⟨k, hk, rfl, O, hO, hOs, hOc, hB⟩ := hrel
    clear hI0
    by_cases hlt : k < 8
    · have hw1 : IntKind.i64.wrap (8 * (k : Int)) = ((8 * k : Nat) : Int) := by rw [IntKind.wrap_i64]; omega
      have hw3 : IntKind.u64.wrap ((8 * k : Nat) : Int) = ((8 * k : Nat) : Int) := by rw [IntKind.wrap_u64]; omega
      have hv : IntKind.u8.wrap (m / 2 ^ (8 * k)) = leB m k := by rw [IntKind.wrap_u8]; rfl
      have lj : (k : Int) < 8 := by omega
      have lsh : ((8 * k : Nat) : Int) < 64 := by omega
      have gO := Lib.hid hO
      have gOc := Lib.hid hOc
      have gB := Lib.hid hB
      clear hO hOc hB
      generalize 8 * k = sh at *
      go_wp2_with (
        ((with_reducible refine at_store 5 ?_); go_loud (refine wpList_store_gen 5 _ _ rfl rfl (w.heap.size + 1) k rfl .u8 _ rfl (by kernel_rfl) O 90 gO.out (by omega) (Nat.le_refl _) gB.out (fun W5 hC5 hB5 => ?_))))
      exact ⟨⟨k + 1, by omega, by go_num, NumP.step gOc.out hOs hlt hC5 hB5⟩, by simp [intOf]; omega⟩
    · have e : k = 8 := by omega
      subst e
      have hE := cells_eq (kd := fun _ => .u8) hOs (fun i hi => hOc i hi)
      have hR := (hB.block w.heap.size (by omega)).trans hr1
      have hO' := Lib.hid (hE ▸ hO)
      have hR' := Lib.hid hR
      have hB' := Lib.hid (hb1.trans (hB.mono (by omega)))
      clear hO hOc hR hB hE hOs
      go_wp2_with (first
        | ((with_reducible refine at_load 90 ?_); refine wpList_value (by rfl) _ (run_load_box _ 90 _ (by rfl) (w.heap.size + 1) (by rfl) _ _ (0, 0) _ hO'.out Tryd.underlying90 rfl (by rw [row_size row_b8]; simp [fcells])) ?_)
        | ((with_reducible refine at_store 90 ?_); refine wpList_store_row_gen 90 _ _ rfl rfl w.heap.size rfl _ rfl (fcells_one _ _ _) (by rw [row_size row_b8]; simp [fcells]) _ 90 hR'.out (by simp [fcells]) (Nat.le_refl _) hB'.out (fun W9 hW9 hBW _ => ?_)))
      exact ret_cell rfl w.heap.size 0 (fcells 8 (fun _ => .u8) (leB m)) _ rfl hW9 Tryd.underlying90 rfl (by rw [row_size row_b8, fcells_length]) rfl ⟨rfl, hBW⟩
set_option maxHeartbeats 4000000 in
theorem rbytes_any (m : Int) (w : World) :
    Calls Tryd.prog 39 #[.int .u64 m] w fun e w' => e = .returned (.agg (numV m)) ∧ Below w.heap.size w w' := by
  obtain ⟨w1, hw1⟩ : ∃ w1, w1 = w.alloc (.cells (rep 8) 90) := ⟨_, rfl⟩
  have hb1 : Below w.heap.size w w1 := by rw [hw1]; exact (Below.refl _ _).alloc (Nat.le_refl _) _
  have hr1 : w1.heap[w.heap.size]? = some (.cells (rep 8) 90 (0, 0)) := by rw [hw1]; exact heap_alloc_last w _
  have hs1 : w1.heap.size = w.heap.size + 1 := by rw [hw1]; simp
  go_enter Tryd.func39, Tryd.ntmps39
  go_wp2
  refine gen_world (NumP (w.heap.size + 1) m 0 w1) ⟨_, heap_new _ _ _ _ (by simp), rfl, fun j hj => absurd hj (by omega), by rw [← hs1, hw1]; exact (Below.refl _ _).alloc (Nat.le_refl _) _⟩ ?_
  clear hw1
  intro W0 hI0
  go_loopw [4] (fun i wr => ∃ k : Nat, k ≤ 8 ∧ i = .int .i64 k ∧ NumP (w.heap.size + 1) m k w1 wr) (fun i _ => 8 - (intOf i).toNat)
  case atStart => exact ⟨0, by omega, rfl, hI0⟩
  case round =>
    obtain ⟨k, hk, rfl, O, hO, hOs, hOc, hB⟩ := hrel
    clear hI0
    by_cases hlt : k < 8
    · have hw1 : IntKind.i64.wrap (8 * (k : Int)) = ((8 * k : Nat) : Int) := by rw [IntKind.wrap_i64]; omega
      have hw3 : IntKind.u64.wrap ((8 * k : Nat) : Int) = ((8 * k : Nat) : Int) := by rw [IntKind.wrap_u64]; omega
      have hv : IntKind.u8.wrap (m / 2 ^ (8 * k)) = leB m k := by rw [IntKind.wrap_u8]; rfl
      have lj : (k : Int) < 8 := by omega
      have lsh : ((8 * k : Nat) : Int) < 64 := by omega
      have gO := Lib.hid hO
      have gOc := Lib.hid hOc
      have gB := Lib.hid hB
      clear hO hOc hB
      generalize 8 * k = sh at *
      go_wp2_with (
        ((with_reducible refine at_store 5 ?_); go_loud (refine wpList_store_gen 5 _ _ rfl rfl (w.heap.size + 1) k rfl .u8 _ rfl (by kernel_rfl) O 90 gO.out (by omega) (Nat.le_refl _) gB.out (fun W5 hC5 hB5 => ?_))))
      exact ⟨⟨k + 1, by omega, by go_num, NumP.step gOc.out hOs hlt hC5 hB5⟩, by simp [intOf]; omega⟩
    · have e : k = 8 := by omega
      subst e
      have hE := cells_eq (kd := fun _ => .u8) hOs (fun i hi => hOc i hi)
      have hR := (hB.block w.heap.size (by omega)).trans hr1
      have hO' := Lib.hid (hE ▸ hO)
      have hR' := Lib.hid hR
      have hB' := Lib.hid (hb1.trans (hB.mono (by omega)))
      clear hO hOc hR hB hE hOs
      go_wp2_with (first
        | ((with_reducible refine at_load 90 ?_); refine wpList_value (by rfl) _ (run_load_box _ 90 _ (by rfl) (w.heap.size + 1) (by rfl) _ _ (0, 0) _ hO'.out Tryd.underlying90 rfl (by rw [row_size row_b8]; simp [fcells])) ?_)
        | ((with_reducible refine at_store 90 ?_); refine wpList_store_row_gen 90 _ _ rfl rfl w.heap.size rfl _ rfl (fcells_one _ _ _) (by rw [row_size row_b8]; simp [fcells]) _ 90 hR'.out (by simp [fcells]) (Nat.le_refl _) hB'.out (fun W9 hW9 hBW _ => ?_)))
      exact ret_cell rfl w.heap.size 0 (fcells 8 (fun _ => .u8) (leB m)) _ rfl hW9 Tryd.underlying90 rfl (by rw [row_size row_b8, fcells_length]) rfl ⟨rfl, hBW⟩
end Go.Proofs.YtfnjcpopadpmbaaDoor
namespace Go.Proofs.YtfnjcpopadpmbaaDoor
open Go.RowKit BigFrame
set_option maxRecDepth 100000
/-- The first k bytes as a number, the least first. -/
def rdI (f : Nat → Int) : Nat → Int
  | 0 => 0
  | k + 1 => rdI f k + f k * 2 ^ (8 * k)
/-- The last k of eight bytes as a number. -/
def rhI (f : Nat → Int) : Nat → Int
  | 0 => 0
  | k + 1 => rhI f k * 256 + f (7 - k)
theorem rdI_lt {f : Nat → Int} (h : ∀ j, IsB (f j)) (k : Nat) : 0 ≤ rdI f k ∧ rdI f k < 2 ^ (8 * k) := by
  induction k with
  | zero => exact ⟨Int.le_refl _, by show (0 : Int) < 1; decide⟩
  | succ k ih =>
    have hk := h k
    unfold IsB at hk
    have hp : (0 : Int) < 2 ^ (8 * k) := Int.pow_pos (by decide)
    have e : (2 : Int) ^ (8 * (k + 1)) = 256 * 2 ^ (8 * k) := by
      rw [show 8 * (k + 1) = 8 * k + 8 from by omega, Int.pow_add, Int.mul_comm]
      rfl
    have h1 : f k * 2 ^ (8 * k) ≤ 255 * 2 ^ (8 * k) := Int.mul_le_mul_of_nonneg_right hk.2 (Int.le_of_lt hp)
    have h2 : 0 ≤ f k * 2 ^ (8 * k) := Int.mul_nonneg hk.1 (Int.le_of_lt hp)
    show 0 ≤ rdI f k + f k * 2 ^ (8 * k) ∧ rdI f k + f k * 2 ^ (8 * k) < 2 ^ (8 * (k + 1))
    rw [e]
    omega
theorem rhI_lt {f : Nat → Int} (h : ∀ j, IsB (f j)) (k : Nat) : 0 ≤ rhI f k ∧ rhI f k < 2 ^ (8 * k) := by
  induction k with
  | zero => exact ⟨Int.le_refl _, by show (0 : Int) < 1; decide⟩
  | succ k ih =>
    have hk := h (7 - k)
    unfold IsB at hk
    have e : (2 : Int) ^ (8 * (k + 1)) = 256 * 2 ^ (8 * k) := by
      rw [show 8 * (k + 1) = 8 * k + 8 from by omega, Int.pow_add, Int.mul_comm]
      rfl
    show 0 ≤ rhI f k * 256 + f (7 - k) ∧ rhI f k * 256 + f (7 - k) < 2 ^ (8 * (k + 1))
    rw [e]
    omega
theorem rh_rd (f : Nat → Int) : rhI f 8 = rdI f 8 := by
  simp only [rhI, rdI]
  simp
  omega
theorem pow56 (s : Nat) (hs : s ≤ 56) : (2 : Int) ^ s ≤ 72057594037927936 := by
  have h : (2 : Int) ^ s ≤ 2 ^ 56 := by
    have : 2 ^ s ≤ 2 ^ 56 := Nat.pow_le_pow_right (by decide) hs
    exact_mod_cast this
  exact h
theorem or_comm_i (k : IntKind) (x y : Int) : bits .or k x y = bits .or k y x := by
  unfold bits
  simp only [BitVec.or_comm]
theorem or_step {x y : Int} {s : Nat} (hs : s ≤ 56) (hx : 0 ≤ x ∧ x < 2 ^ s) (hy : IsB y) : bits .or .u64 x (IntKind.u64.wrap (y * 2 ^ s)) = x + y * 2 ^ s := by
  unfold IsB at hy
  have hp : (0 : Int) < 2 ^ s := Int.pow_pos (by decide)
  have h56 : (2 : Int) ^ s ≤ 2 ^ 56 := by
    have : 2 ^ s ≤ 2 ^ 56 := Nat.pow_le_pow_right (by decide) hs
    exact_mod_cast this
  have h1 : y * 2 ^ s ≤ 255 * 2 ^ s := Int.mul_le_mul_of_nonneg_right hy.2 (Int.le_of_lt hp)
  have h2 : 0 ≤ y * 2 ^ s := Int.mul_nonneg hy.1 (Int.le_of_lt hp)
  have e56 : (2 : Int) ^ 56 = 72057594037927936 := rfl
  have hw : IntKind.u64.wrap (y * 2 ^ s) = y * 2 ^ s := by rw [IntKind.wrap_u64]; omega
  have e64 : (2 : Int) ^ 64 = 18446744073709551616 := rfl
  rw [hw, or_comm_i, bits_join .u64 64 (by decide) (fun n a b => show IntKind.u64.wrap n = n by rw [IntKind.wrap_u64]; omega) s (y * 2 ^ s) x h2 (Int.mul_emod_left _ _) (by omega) hx.1 hx.2 (by omega)]
  omega
theorem or_low {x y : Int} (hx : 0 ≤ x ∧ x < 72057594037927936) (hy : IsB y) : bits .or .u64 (IntKind.u64.wrap (x * 256)) y = x * 256 + y := by
  unfold IsB at hy
  have hw : IntKind.u64.wrap (x * 256) = x * 256 := by rw [IntKind.wrap_u64]; omega
  have e64 : (2 : Int) ^ 64 = 18446744073709551616 := rfl
  have e8 : (2 : Int) ^ 8 = 256 := rfl
  rw [hw]
  exact bits_join .u64 64 (by decide) (fun n a b => show IntKind.u64.wrap n = n by rw [IntKind.wrap_u64]; omega) 8 (x * 256) y (by omega) (by omega) (by omega) hy.1 (by omega) (by omega)
set_option maxHeartbeats 4000000 in
theorem read_any (l : List Int) (va : Option Addr) (c : Nat) (w : World) (hr : Row w va .u8 l) :
    Calls Tryd.prog 43 #[.slice va l.length c] w fun e w' => e = .returned (.tuple #[.int .u64 (if l.length = 8 then rdI (fun j => l.getD j 0) 8 else 0), .int .i64 (if l.length = 8 then 0 else 4)]) ∧ w = w' := by
  by_cases h8 : l.length = 8
  · rw [if_pos h8, if_pos h8, h8]
    obtain ⟨b, o, rfl, _⟩ := hr.cell 0 (by omega)
    have hcell (j : Nat) (hj : j < 8) : w.cell? ⟨b, o + j, none⟩ = some (.int .u8 (l.getD j 0)) := by
      obtain ⟨b', o', e, h⟩ := hr.cell j (by omega)
      cases e
      exact h
    have hB : ∀ j, IsB (l.getD j 0) := list_isB hr.ok
    obtain ⟨f, hf⟩ : ∃ f : Nat → Int, ∀ j, l.getD j 0 = f j := ⟨_, fun _ => rfl⟩
    have hfun : (fun j => l.getD j 0) = f := funext hf
    rw [hfun]
    have hc' := Lib.hid (fun j hj => (hcell j hj).trans (by rw [hf j]))
    have hB' := Lib.hid (fun j => hf j ▸ hB j)
    clear hr h8 hf hfun hcell hB
    go_enter Tryd.func43, Tryd.ntmps43
    go_wp2
    go_loop [4, 12] (fun n i => ∃ k : Nat, k ≤ 8 ∧ i = .int .i64 k ∧ n = .int .u64 (rdI f k)) (fun _ i => 8 - (intOf i).toNat)
    case atStart => exact ⟨0, by omega, rfl, rfl⟩
    case round =>
      obtain ⟨k, hk, rfl, rfl⟩ := hrel
      by_cases hlt : k < 8
      · have hx := hc'.out k hlt
        have hy := hB'.out k
        have hv : bits .or .u64 (rdI f k) (IntKind.u64.wrap (f k * 2 ^ (8 * k))) = rdI f (k + 1) := or_step (by omega) (rdI_lt hB'.out k) hy
        have hw0 : IntKind.u64.wrap (f k) = f k := by unfold IsB at hy; rw [IntKind.wrap_u64]; omega
        have hw1 : IntKind.i64.wrap (8 * (k : Int)) = ((8 * k : Nat) : Int) := by rw [IntKind.wrap_i64]; omega
        have lk : (k : Int) < 8 := by omega
        have lsh : ((8 * k : Nat) : Int) < 64 := by omega
        clear hy
        generalize hsh : 8 * k = sh at *
        generalize f k = y at *
        generalize rdI f k = x at *
        generalize hz : rdI f (k + 1) = z at *
        go_wp2
        go_round
        case rel => exact ⟨k + 1, by omega, by go_num, by rw [hz]⟩
        case measure => simp [intOf]; omega
      · have e : k = 8 := by omega
        subst e
        go_wp2
        go_ret2
        exact ⟨rfl, rfl⟩
  · rw [if_neg h8, if_neg h8]
    have hne : ((l.length : Int) != 8) = true := by
      rw [bne_iff_ne]
      omega
    clear hr
    go_enter Tryd.func43, Tryd.ntmps43
    go_wp2
    go_ret2
    exact ⟨rfl, rfl⟩
set_option maxHeartbeats 4000000 in
theorem rread_any (l : List Int) (va : Option Addr) (c : Nat) (w : World) (hr : Row w va .u8 l) :
    Calls Tryd.prog 60 #[.slice va l.length c] w fun e w' => e = .returned (.tuple #[.int .u64 (if l.length = 8 then rdI (fun j => l.getD j 0) 8 else 0), .int .i64 (if l.length = 8 then 0 else 4)]) ∧ w = w' := by
  by_cases h8 : l.length = 8
  · rw [if_pos h8, if_pos h8, h8]
    obtain ⟨b, o, rfl, _⟩ := hr.cell 0 (by omega)
    have hcell (j : Nat) (hj : j < 8) : w.cell? ⟨b, o + j, none⟩ = some (.int .u8 (l.getD j 0)) := by
      obtain ⟨b', o', e, h⟩ := hr.cell j (by omega)
      cases e
      exact h
    have hB : ∀ j, IsB (l.getD j 0) := list_isB hr.ok
    obtain ⟨f, hf⟩ : ∃ f : Nat → Int, ∀ j, l.getD j 0 = f j := ⟨_, fun _ => rfl⟩
    have hfun : (fun j => l.getD j 0) = f := funext hf
    rw [hfun, ← rh_rd]
    have hc' := Lib.hid (fun j hj => (hcell j hj).trans (by rw [hf j]))
    have hB' := Lib.hid (fun j => hf j ▸ hB j)
    clear hr h8 hf hfun hcell hB
    go_enter Tryd.func60, Tryd.ntmps60
    go_wp2
    go_loop [4, 5] (fun n i => ∃ k : Nat, k ≤ 8 ∧ i = .int .i64 (7 - (k : Int)) ∧ n = .int .u64 (rhI f k)) (fun _ i => (intOf i + 1).toNat)
    case atStart => exact ⟨0, by omega, rfl, rfl⟩
    case round =>
      obtain ⟨k, hk, rfl, rfl⟩ := hrel
      by_cases hlt : k < 8
      · have hx := hc'.out (7 - k) (by omega)
        have hy := hB'.out (7 - k)
        have hxb := rhI_lt hB'.out k
        have hp := pow56 (8 * k) (by omega)
        have hv : bits .or .u64 (IntKind.u64.wrap (rhI f k * 256)) (f (7 - k)) = rhI f (k + 1) := or_low ⟨hxb.1, by omega⟩ hy
        have hw0 : IntKind.u64.wrap (f (7 - k)) = f (7 - k) := by unfold IsB at hy; rw [IntKind.wrap_u64]; omega
        have hJ : 7 - (k : Int) = ((7 - k : Nat) : Int) := by omega
        have lk : ((7 - k : Nat) : Int) < 8 := by omega
        clear hy hxb hp
        rw [hJ]
        generalize 7 - k = j at *
        have hJ' := Lib.hid hJ
        have hle : (0 : Int) ≤ j := by omega
        clear hJ
        generalize f j = y at *
        generalize rhI f k = x at *
        generalize hz : rhI f (k + 1) = z at *
        generalize hx8 : IntKind.u64.wrap (x * 256) = x8 at *
        go_wp2
        go_round
        case rel => exact ⟨k + 1, by omega, by have := hJ'.out; congr 1; omega, by rw [hz]⟩
        case measure => simp [intOf] <;> omega
      · have e : k = 8 := by omega
        subst e
        go_wp2
        go_ret2
        exact ⟨rfl, rfl⟩
  · rw [if_neg h8, if_neg h8]
    have hne : ((l.length : Int) != 8) = true := by
      rw [bne_iff_ne]
      omega
    clear hr
    go_enter Tryd.func60, Tryd.ntmps60
    go_wp2
    go_ret2
    exact ⟨rfl, rfl⟩
end Go.Proofs.YtfnjcpopadpmbaaDoor
namespace Go.Proofs.YtfnjcpopadpmbaaDoor
open Go.RowKit BigFrame
set_option maxRecDepth 100000
def le4 (n : Int) : List Int := (List.range 4).map (leB n)
theorem le4_length (n : Int) : (le4 n).length = 4 := rfl
theorem le4_ok (n : Int) : ∀ m ∈ le4 n, CK.ok .u8 m := fun m hm => by
  obtain ⟨j, _, rfl⟩ := List.mem_map.1 hm
  exact leB_is n j
end Go.Proofs.YtfnjcpopadpmbaaDoor
