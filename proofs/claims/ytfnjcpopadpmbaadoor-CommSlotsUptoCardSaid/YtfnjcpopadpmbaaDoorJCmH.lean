/- The blocks of a round are reckoned. -/
/- The pairs of a round change. -/
/- A list is shuffled. -/
import Derived.Test.YtfnjcpopadpmbaaDoorKCmE
set_option linter.unusedVariables false
set_option linter.unusedSimpArgs false
set_option linter.unnecessarySimpa false
namespace Go.Proofs.YtfnjcpopadpmbaaDoor
open Go.RowKit BigFrame
set_option maxRecDepth 100000
/-- A store of some cells into a block that is known. -/
theorem wp_store_part {P : Program} {o : Oper} {a : Act} {w : World} {K : Act → World → Prop} {Q : Exit → Act → World → Prop} (ty : TypeId) (x y : Operand) (ho : o.op = .store ty x y) (b k : Nat) (hx : a.eval x = .pointer (some ⟨b, k, none⟩)) (cs : Array Value) (hy : a.eval y = .agg cs) (h1 : cs.all (·.oneCell') = true)
    (hz : (P.info? ty).map (·.size) = some cs.size) (C : Array Value) (t : TypeId) (hC : w.heap[b]? = some (.cells C t (0, 0))) (hk : k + cs.size ≤ C.size)
    (h : ∀ W, W.heap[b]? = some (.cells (splice C.toList k cs.toList).toArray t (0, 0)) → Apart b w W → K (a.put o.dst undef) W) : o.wp P a w K Q := by
  have ht : w.there b k cs.size := fun j hj => by
    refine ⟨?_, Joins.unfrozen_of_block hC _⟩
    rw [cell_of_row w b (k + j) C _ _ hC, Array.getElem?_eq_getElem (by omega)]
    rfl
  have hs := run_storeAt_mid (P := P) w b k ty cs ht hz h1
  have hr := World.rangeAt_setCells_same w b k cs.toList (by simpa using ht)
  have hbl : (w.setCells b k cs.toList).heap[b]? = some (.cells (splice C.toList k cs.toList).toArray t (0, 0)) := by
    have key : ∀ (vs : List Value) (o : Nat) (w : World) (C : Array Value), w.heap[b]? = some (.cells C t (0, 0)) → ∃ C' : Array Value, (w.setCells b o vs).heap[b]? = some (.cells C' t (0, 0)) ∧ C'.size = C.size := by
      intro vs
      induction vs with
      | nil => intro o w C h; exact ⟨C, h, rfl⟩
      | cons v vs ih =>
        intro o w C h
        obtain ⟨C', h1, h2⟩ := ih (o + 1) _ _ (Joins.block_setCell (i := o) h v)
        exact ⟨C', h1, by simpa using h2⟩
    obtain ⟨C', h1, h2⟩ := key cs.toList k w C hC
    have hl : k + cs.toList.length ≤ C.toList.length := by simpa using hk
    suffices e : C' = (splice C.toList k cs.toList).toArray by rw [h1, e]
    apply Array.ext_getElem?
    intro j
    rw [show (splice C.toList k cs.toList).toArray[j]? = (splice C.toList k cs.toList)[j]? from by simp, splice_get hl, Array.length_toList]
    by_cases c : k ≤ j ∧ j < k + cs.size
    · rw [if_neg (by omega), if_pos c.2]
      have := hr (j - k) cs[j - k] (by simp [show j - k < cs.size by omega])
      rw [show k + (j - k) = j by omega, cell_of_row _ b j C' _ _ h1] at this
      rw [this]
      simp [show j - k < cs.size by omega]
    · have ho2 := World.cell?_setCells_out b cs.toList k w ⟨b, j, none⟩ (fun _ _ => by simp only [Array.length_toList]; omega)
      rw [cell_of_row _ b j C' _ _ h1, cell_of_row _ b j C _ _ hC] at ho2
      rw [ho2]
      by_cases c1 : j < k
      · rw [if_pos c1]; simp
      · rw [if_neg c1, if_neg (by omega)]; simp
  unfold Oper.wp execOp
  simp only [ho, hx, hy, Sem.run_bind, hs, Result.andThen, Sem.run_pure, Oper.upon_skip]
  exact h _ hbl ((Apart.refl _ _).setCells b k _ (Or.inl rfl))
theorem TabC.apart {w W : World} {n : Nat} (h : TabC w) (hn : 2 ≤ n) (hb : Apart n w W) : TabC W := by
  have hs := h.size
  exact ⟨fun j hj => (hb.cell (by simp only; omega) (by simp only; omega)).trans (h.start j hj), fun j hj => (hb.cell (by simp only; omega) (by simp only; omega)).trans (h.round j hj)⟩
/-- The first k blocks of a round. -/
def BlkI (gb nbl : Nat) (sd : Nat → Int) (r k : Nat) (W : World) : Prop :=
  ∃ B : Array Value, W.heap[gb]? = some (.cells B 24 (0, 0)) ∧ B.size = nbl * 32 ∧ ∀ i, i < k → ∀ j, j < 32 → B[32 * i + j]? = some (.int .u8 (blkS sd r i j))
theorem BlkI.step {gb nbl r k : Nat} {sd : Nat → Int} {B : Array Value} {W : World} (hs : B.size = nbl * 32) (hB : ∀ i, i < k → ∀ j, j < 32 → B[32 * i + j]? = some (.int .u8 (blkS sd r i j))) (hk : k < nbl)
    (h : W.heap[gb]? = some (.cells (splice B.toList (32 * k) (rootV (blkS sd r k)).toList).toArray 24 (0, 0))) : BlkI gb nbl sd r (k + 1) W := by
  have hl : (rootV (blkS sd r k)).toList.length = 32 := by simp [fcells]
  have hf : 32 * k + (rootV (blkS sd r k)).toList.length ≤ B.toList.length := by rw [hl, Array.length_toList, hs]; omega
  refine ⟨_, h, by rw [List.size_toArray, splice_length hf, Array.length_toList, hs], fun i hi j hj => ?_⟩
  rw [List.getElem?_toArray, splice_get hf, hl]
  by_cases e : i = k
  · subst e
    rw [if_neg (by omega), if_pos (by omega), show 32 * i + j - 32 * i = j by omega]
    show (fcells 32 (fun _ => .u8) (blkS sd r i))[j]? = _
    rw [fcells_get _ _ _ _ hj]
    rfl
  · rw [if_pos (by omega)]
    simpa using hB i (by omega) j hj
def LsA (vo : Value) (n : Nat) (vr : Value) (r : Int) (nb1 gb nbl : Nat) (u : Nat → Value) : Act := { tmps := #[u 0, u 1, u 2, u 3, u 4, u 5, vo, .int .u64 (n : Int), vr, .int .i64 r, .pointer (some ⟨nb1, 0, none⟩), .slice (some ⟨gb, 0, none⟩) nbl nbl, u 12, u 13, u 14, u 15, u 16, u 17, u 18, u 19, u 20, u 21, u 22, u 23, u 24, u 25, u 26, u 27, u 28, u 29, u 30, u 31, u 32, u 33, u 34, u 35, u 36, u 37, u 38, u 39, u 40, u 41, .int .i64 (nbl : Int), .int .i64 0, u 44, u 45, u 46, u 47, u 48, u 49, u 50, u 51, u 52, u 53, u 54, u 55, u 56, u 57, u 58, u 59, u 60, u 61, u 62, u 63, u 64, u 65, u 66, u 67, u 68, u 69, u 70, u 71, u 72, u 73, u 74, u 75, u 76, u 77, u 78, u 79, u 80, u 81, u 82, u 83, u 84, u 85, u 86, u 87, u 88, u 89, u 90], defers := [] }
def LsB (vo : Value) (n : Nat) (vr : Value) (r : Int) (nb1 gb nbl : Nat) (u : Nat → Value) : Act := { tmps := #[u 0, u 1, u 2, u 3, u 4, u 5, vo, .int .u64 (n : Int), vr, .int .i64 r, .pointer (some ⟨nb1, 0, none⟩), .slice (some ⟨gb, 0, none⟩) nbl nbl, u 12, u 13, u 14, u 15, u 16, u 17, u 18, u 19, u 20, u 21, u 22, u 23, u 24, u 25, u 26, u 27, u 28, u 29, u 30, u 31, u 32, u 33, u 34, u 35, u 36, u 37, u 38, u 39, u 40, u 41, u 42, u 43, u 44, u 45, u 46, u 47, u 48, u 49, u 50, u 51, u 52, u 53, u 54, u 55, u 56, u 57, u 58, u 59, u 60, u 61, u 62, u 63, u 64, u 65, u 66, u 67, u 68, u 69, u 70, u 71, u 72, u 73, u 74, u 75, u 76, u 77, u 78, u 79, u 80, u 81, u 82, u 83, u 84, u 85, u 86, u 87, u 88, u 89, u 90], defers := [] }
def LsC (vo : Value) (n : Nat) (vr : Value) (r : Int) (nb1 gb nbl : Nat) (u : Nat → Value) : Act := { tmps := #[u 0, u 1, u 2, u 3, u 4, u 5, vo, .int .u64 (n : Int), vr, .int .i64 r, .pointer (some ⟨nb1, 0, none⟩), .slice (some ⟨gb, 0, none⟩) nbl nbl, u 12, u 13, u 14, u 15, u 16, u 17, u 18, u 19, u 20, u 21, u 22, u 23, u 24, u 25, u 26, u 27, u 28, u 29, u 30, u 31, u 32, u 33, u 34, u 35, u 36, u 37, u 38, u 39, u 40, u 41, u 42, u 43, u 44, u 45, u 46, u 47, u 48, u 49, u 50, u 51, u 52, u 53, .int .u64 (n : Int), .int .u64 0, u 56, u 57, u 58, u 59, u 60, u 61, u 62, u 63, u 64, u 65, u 66, u 67, u 68, u 69, u 70, u 71, u 72, u 73, u 74, u 75, u 76, u 77, u 78, u 79, u 80, u 81, u 82, u 83, u 84, u 85, u 86, u 87, u 88, u 89, u 90], defers := [] }
def LsD (vo : Value) (n : Nat) (vr : Value) (r : Int) (u : Nat → Value) : Act := { tmps := #[u 0, u 1, u 2, u 3, u 4, u 5, vo, .int .u64 (n : Int), vr, .int .i64 r, u 10, u 11, u 12, u 13, u 14, u 15, u 16, u 17, u 18, u 19, u 20, u 21, u 22, u 23, u 24, u 25, u 26, u 27, u 28, u 29, u 30, u 31, u 32, u 33, u 34, u 35, u 36, u 37, u 38, u 39, u 40, u 41, u 42, u 43, u 44, u 45, u 46, u 47, u 48, u 49, u 50, u 51, u 52, u 53, u 54, u 55, u 56, u 57, u 58, u 59, u 60, u 61, u 62, u 63, u 64, u 65, u 66, u 67, u 68, u 69, u 70, u 71, u 72, u 73, u 74, u 75, u 76, u 77, u 78, u 79, u 80, u 81, u 82, u 83, u 84, u 85, u 86, u 87, u 88, u 89, u 90], defers := [] }
noncomputable def blkBody : Code := blockIn 0 Tryd.f21
theorem row_round : rowB Tryd.prog 83 2 = true := by kernel_rfl
set_option maxHeartbeats 8000000 in
theorem blk_loop {Q : Exit → Act → World → Prop} {a : Act} (vo : Value) (n : Nat) (vr : Value) (r : Int) (nb1 gb nbl d k0 : Nat) (pv : Int) (sd : Nat → Int) (W : World) (hsd0 : IsR sd) (hk0 : k0 < 256) (hnb : nbl ≤ 65536) (hT0 : TabC W)
    (hgb : 2 ≤ gb) (h1 : W.heap[nb1]? = some (.cells #[.int .u64 pv, .pointer (some ⟨d, 0, none⟩)] 83 (0, 0))) (hd0 : W.heap[d]? = some (.cells (dgC (dgl sd k0)) 104 (0, 0))) (hn1 : nb1 ≠ gb) (hn2 : d ≠ gb)
    (ha : a = LsA vo n vr r nb1 gb nbl (fun k => a.tmps.getD k undef)) (hB : BlkI gb nbl sd k0 0 W) (hQ : ∀ a w', a = LsB vo n vr r nb1 gb nbl (fun k => a.tmps.getD k undef) → BlkI gb nbl sd k0 nbl w' → Apart gb W w' → Q .normal a w') : blkBody.wp Tryd.prog (Exit.inBlock 0 Q) a W := by
  rw [ha]
  generalize (fun k => a.tmps.getD k undef) = u
  clear ha a
  unfold LsA
  have hsd := Lib.hid hsd0
  have hT := Lib.hid hT0
  have hr1 := Lib.hid h1
  have hd := Lib.hid hd0
  have hBI := Lib.hid hB
  have hQ' := Lib.hid hQ
  have hne1 := Lib.hid hn1
  have hne2 := Lib.hid hn2
  have hgb' := Lib.hid hgb
  clear hsd0 hT0 h1 hd0 hB hQ hn1 hn2 hgb
  simp only [blkBody, blockIn, blockOf, Tryd.f21, reduceIte, Nat.reduceEqDiff]
  go_loopw [43] (fun i wr => ∃ k : Nat, k ≤ nbl ∧ i = .int .i64 k ∧ BlkI gb nbl sd k0 k wr ∧ Apart gb W wr) (fun i _ => nbl - (intOf i).toNat)
  case atStart => exact ⟨0, by omega, rfl, hBI.out, Apart.refl _ _⟩
  case round =>
    obtain ⟨k, hk, rfl, ⟨B, hB1, hB2, hB3⟩, hA⟩ := hrel
    have gB := Lib.hid hB1
    have gS := Lib.hid hB2
    have gC := Lib.hid hB3
    have gA := Lib.hid hA
    clear hB1 hB2 hB3 hA hBI
    by_cases hlt : k < nbl
    · have lk : (k : Int) < (nbl : Int) := by omega
      have wk : IntKind.u64.wrap (k : Int) = (k : Int) := by rw [IntKind.wrap_u64]; omega
      have gr := Lib.hid ((gA.out.block nb1 (blk_lt hr1.out) hne1.out).trans hr1.out)
      have hbk := Lib.hid (block_any14 d k0 k pv sd hsd.out hk0 wr ((gA.out.block d (blk_lt hd.out) hne2.out).trans hd.out) (hT.out.apart hgb'.out gA.out))
      go_wp2_with (first
        | ((with_reducible refine at_load 83 ?_); go_loud (refine wpList_value (by rfl) _ (run_load_box _ 83 _ (by rfl) nb1 (by rfl) _ #[.int .u64 pv, .pointer (some ⟨d, 0, none⟩)] (0, 0) _ gr.out Tryd.underlying83 rfl (by rw [row_size row_round]; rfl)) ?_))
        | ((with_reducible refine hbk.out.mono ?_)
           rintro e W1 ⟨rfl, b1⟩
           have hB1 := Lib.hid ((b1.block gb (blk_lt gB.out)).trans gB.out)
           have hA1 := Lib.hid (gA.out.call b1)
           clear b1)
        | ((with_reducible refine at_iaddrC 32 ?_); go_loud (refine wpList_value (by rfl) _ (run_index_slice _ 32 24 (.tmp 46) (.tmp 47) rfl Tryd.underlying32 32 (row_size row_root) gb 0 nbl nbl rfl .i64 k rfl hlt (32 * k) (by omega)) ?_))
        | ((with_reducible refine at_store 24 ?_)
           go_loud (refine wpList_plain rfl fun K hK => wp_store_part 24 (.tmp 52) (.tmp 51) rfl gb (32 * k) rfl (rootV (blkS sd k0 k)) rfl (fcells_one _ _ _) (by rw [row_size row_root]; simp [fcells]) B 24 hB1.out (by rw [gS.out]; simp [fcells]; omega) (fun W2 hC2 hA2 => hK _ _ ?_))
           clear hK K
           have hB2 := Lib.hid (BlkI.step gS.out gC.out hlt hC2)
           have hA3 := Lib.hid (hA1.out.trans hA2)
           clear hC2 hA2))
      exact ⟨⟨k + 1, by omega, by go_num, hB2.out, hA3.out⟩, by simp [intOf]; omega⟩
    · have e : k = nbl := by omega
      subst e
      go_wp2
      exact hQ'.out _ _ (by kernel_rfl) ⟨B, gB.out, gS.out, gC.out⟩ gA.out
end Go.Proofs.YtfnjcpopadpmbaaDoor
namespace Go.Proofs.YtfnjcpopadpmbaaDoor
open Go.RowKit BigFrame
set_option maxRecDepth 100000
/-- v is a slice of the call's own that holds these numbers. -/
def OwU (base : Nat) (v : Value) (l : List Int) (w : World) : Prop := w.ownsRow base 22 1 v l.length (l.map (Value.int .u64))
theorem OwU.later {base : Nat} {v : Value} {l : List Int} {w w' : World} (h : OwU base v l w) (hb : Below w.heap.size w w') : OwU base v l w' := own_later h hb
theorem OwU.cell {base g n cap : Nat} {l : List Int} {w : World} (h : OwU base (.slice (some ⟨g, 0, none⟩) n cap) l w) (j : Nat) (hj : j < l.length) : w.cell? ⟨g, j, none⟩ = some (.int .u64 (l.getD j 0)) := by
  rcases h.2 with ⟨h', _⟩ | ⟨g', cap', cur, h', hb, hg, hnc, hcm, hcs, htake⟩
  · cases h'
  · cases h'
    rw [cell_of_row w g j _ _ _ hg]
    have e : (cur.toList.take (l.length * 1))[j]? = some (.int .u64 (l.getD j 0)) := by
      rw [htake]
      simp [List.getD, hj]
    rw [List.getElem?_take_of_lt (by omega)] at e
    simpa using e
theorem wp_storeU {o : Oper} {a : Act} {w : World} {K : Act → World → Prop} {Q : Exit → Act → World → Prop} (x y : Operand) (ho : o.op = .store 22 x y) (base g n cap k : Nat) (l : List Int) (hown : OwU base (.slice (some ⟨g, 0, none⟩) n cap) l w)
    (hx : a.eval x = .pointer (some ⟨g, k, none⟩)) (u : Int) (hy : a.eval y = .int .u64 u) (hk : k < l.length)
    (h : ∀ W, OwU base (.slice (some ⟨g, 0, none⟩) n cap) (l.set k u) W → Apart g w W → K (a.put o.dst undef) W) : o.wp Tryd.prog a w K Q := by
  have hm : (l.set k u).map (Value.int .u64) = (l.map (Value.int .u64)).set k (.int .u64 u) := by rw [List.map_set]
  rcases hown.2 with ⟨h', _⟩ | ⟨g', cap', cur, h', hb, hg, hnc, hcm, hcs, htake⟩
  · cases h'
  · cases h'
    have hkc : k < cur.size := by
      have : (l.map (Value.int .u64)).length ≤ cur.size := by rw [← htake, List.length_take, Array.length_toList]; exact Nat.min_le_right _ _
      rw [List.length_map] at this
      omega
    refine wp_store1 22 x y ho g k hx _ hy rfl sz_u64 cur 22 hg hkc fun W hC hA => h W ?_ hA
    refine ⟨by rw [hm]; simp, Or.inr ⟨g, cap, _, by rw [List.length_set], hb, hC, by rw [List.length_set]; exact hnc, hcm, by simpa using hcs, ?_⟩⟩
    rw [Array.toList_setIfInBounds, hm, ← htake, List.length_set, List.take_set]
/-- What holds at each end but a panic. -/
def NoPan (Q : Exit → Act → World → Prop) : Exit → Act → World → Prop
  | .panic _, _, _ => False
  | e, a, w => Q e a w
theorem wp_nopan {P : Program} {c : Code} {Q : Exit → Act → World → Prop} {a : Act} {w : World} (h : c.wp P (NoPan Q) a w) : c.wp P Q a w :=
  Code.wp_mono (fun e a' w' h' => by
    cases e <;> first | exact h' | exact h'.elim) h
noncomputable def swpBody : Code := blockIn 2 Tryd.f21
theorem BlkI.bit {gb nbl r k : Nat} {sd : Nat → Int} {W : World} (h : BlkI gb nbl sd r k W) (i : Nat) (hi : i < k) : ∀ j, j < 32 → W.cell? ⟨gb, 32 * i + j, none⟩ = some (.int .u8 (blkS sd r i j)) := fun j hj => by
  obtain ⟨B, h1, _, h3⟩ := h
  rw [cell_of_row W gb _ _ _ _ h1]
  exact h3 i hi j hj
theorem BlkI.at {gb nbl r k : Nat} {sd : Nat → Int} {W W' : World} (h : BlkI gb nbl sd r k W) (e : W'.heap[gb]? = W.heap[gb]?) : BlkI gb nbl sd r k W' := by
  obtain ⟨B, h1, h2⟩ := h
  exact ⟨B, e.trans h1, h2⟩
theorem BlkI.lt {gb nbl r k : Nat} {sd : Nat → Int} {W : World} (h : BlkI gb nbl sd r k W) : gb < W.heap.size := by
  obtain ⟨B, h1, _⟩ := h
  exact blk_lt h1
set_option maxHeartbeats 8000000 in
theorem swp_loop {Q : Exit → Act → World → Prop} {a : Act} (base g cap n : Nat) (vr : Value) (r : Int) (nb1 gb nbl d k0 p : Nat) (sd : Nat → Int) (L : List Int) (W : World) (hp : p < n) (hn : n ≤ 65536) (hnb : n ≤ 256 * nbl) (hL0 : L.length = n)
    (h1 : W.heap[nb1]? = some (.cells #[.int .u64 (p : Int), .pointer (some ⟨d, 0, none⟩)] 83 (0, 0))) (hB0 : BlkI gb nbl sd k0 nbl W) (hO0 : OwU base (.slice (some ⟨g, 0, none⟩) n cap) L W) (hn1 : nb1 ≠ g) (hn2 : gb ≠ g)
    (ha : a = LsC (.slice (some ⟨g, 0, none⟩) n cap) n vr r nb1 gb nbl (fun k => a.tmps.getD k undef)) (hQ : ∀ a w', a = LsD (.slice (some ⟨g, 0, none⟩) n cap) n vr r (fun k => a.tmps.getD k undef) → OwU base (.slice (some ⟨g, 0, none⟩) n cap) (roundL p n (fun f => bitF (blkS sd k0 (f / 256)) f) L n) w' → Apart g W w' → Q .normal a w') : swpBody.wp Tryd.prog (Exit.inBlock 2 Q) a W := by
  rw [ha]
  generalize (fun k => a.tmps.getD k undef) = u
  clear ha a
  unfold LsC
  have hr1 := Lib.hid h1
  have hBI := Lib.hid hB0
  have hO := Lib.hid hO0
  have hL := Lib.hid hL0
  have hQ' := Lib.hid hQ
  have hne1 := Lib.hid hn1
  have hne2 := Lib.hid hn2
  obtain ⟨bt, hbt⟩ : ∃ bt : Nat → Bool, bt = fun f => bitF (blkS sd k0 (f / 256)) f := ⟨_, rfl⟩
  have hbt' := Lib.hid hbt
  clear h1 hB0 hO0 hQ hn1 hn2 hbt hL0
  simp only [swpBody, blockIn, blockOf, Tryd.f21, reduceIte, Nat.reduceEqDiff]
  go_loopw [55] (fun i wr => ∃ k : Nat, k ≤ n ∧ i = .int .u64 k ∧ OwU base (.slice (some ⟨g, 0, none⟩) n cap) (roundL p n bt L k) wr ∧ Apart g W wr) (fun i _ => n - (intOf i).toNat)
  case atStart => exact ⟨0, by omega, rfl, hO.out, Apart.refl _ _⟩
  case round =>
    obtain ⟨k, hk, rfl, hO1, hA1⟩ := hrel
    have gO := Lib.hid hO1
    have gA := Lib.hid hA1
    clear hO1 hA1 hO
    by_cases hlt : k < n
    · have lk : (k : Int) < (n : Int) := by omega
      have wk : IntKind.u64.wrap ((k : Int) + 1) = ((k + 1 : Nat) : Int) := by rw [IntKind.wrap_u64]; omega
      have gr := Lib.hid ((gA.out.block nb1 (blk_lt hr1.out) hne1.out).trans hr1.out)
      have gB := Lib.hid (hBI.out.at (gA.out.block gb hBI.out.lt hne2.out))
      have hfl := Lib.hid (flip_any p (.pointer (some ⟨d, 0, none⟩)) k n hp hlt (by omega) wr)
      have hflt := flipN_lt hp hlt
      have hrl := roundL_length p n bt L k
      have hsw : roundL p n bt L (k + 1) = swap1 p n bt (roundL p n bt L k) k := rfl
      unfold swap1 at hsw
      obtain ⟨f, hf⟩ : ∃ f, f = flipN p n k := ⟨_, rfl⟩
      obtain ⟨M, hM⟩ : ∃ M, M = roundL p n bt L k := ⟨_, rfl⟩
      rw [← hf] at hfl hflt hsw
      rw [← hM] at hsw gO hrl
      have hsw' := Lib.hid hsw
      have hrl' := Lib.hid (hrl.trans hL.out)
      clear hf hM hsw hrl
      by_cases c1 : k < f
      · have c1I : decide ((k : Int) < (f : Int)) = true := by simp; omega
        have hq : ((f : Int) / 256) = ((f / 256 : Nat) : Int) := by omega
        have hql : f / 256 < nbl := by omega
        have hqlI : ((f / 256 : Nat) : Int) < (nbl : Int) := by omega
        obtain ⟨q, hqd⟩ : ∃ q, q = f / 256 := ⟨_, rfl⟩
        rw [← hqd] at hq hql hqlI
        have hbb : bitF (blkS sd k0 q) f = bt f := by rw [hbt'.out, hqd]
        have hqd' := Lib.hid hqd
        clear hqd
        have hbc := Lib.hid (fun W1 (hb : Below wr.heap.size wr W1) => bit_any (blkS sd k0 q) (blkS_is sd k0 q) gb (32 * q) f (by omega) W1 ((gB.out.at (hb.block gb gB.out.lt)).bit q hql))
        rw [hbb] at hbc
        by_cases c2 : bt f = true
        · rw [c2] at hbc
          go_wp2_with (first
            | ((with_reducible refine at_load 83 ?_); go_loud (refine wpList_value (by rfl) _ (run_load_box _ 83 _ (by rfl) nb1 (by rfl) _ #[.int .u64 (p : Int), .pointer (some ⟨d, 0, none⟩)] (0, 0) _ gr.out Tryd.underlying83 rfl (by rw [row_size row_round]; rfl)) ?_))
            | ((with_reducible refine hfl.out.mono ?_)
               rintro e W1 ⟨rfl, b1⟩
               have B1 := Lib.hid b1
               have hbc1 := Lib.hid (hbc.out _ b1)
               clear b1)
            | ((with_reducible refine at_iaddrC 32 ?_); go_loud (refine wpList_value (by rfl) _ (run_index_slice _ 32 24 (.tmp 66) (.tmp 68) rfl Tryd.underlying32 32 (row_size row_root) gb 0 nbl nbl rfl .u64 q rfl hql (32 * q) (by omega)) ?_))
            | ((with_reducible refine hbc1.out.mono ?_)
               rintro e W2 ⟨rfl, rfl⟩))
          refine wp_nopan ?_
          refine wp_region_held (S := fun _ => True) (by kernel_rfl) ?_
          have hS : True := trivial
          have B1' : Below wr.heap.size wr { W1 with drawn := W1.drawn + 1 } := B1.out.drew
          have O1 := gO.out.later B1'
          have cf := O1.cell f (by rw [hrl'.out]; exact hflt)
          have ck := O1.cell k (by rw [hrl'.out]; exact hlt)
          obtain ⟨xf, hxf⟩ : ∃ xf, xf = M.getD f 0 := ⟨_, rfl⟩
          obtain ⟨xk, hxk⟩ : ∃ xk, xk = M.getD k 0 := ⟨_, rfl⟩
          rw [← hxf] at cf
          rw [← hxk] at ck
          refine takeL (i := 0) (v := (.slice (some ⟨g, 0, none⟩) n cap)) rfl (by kernel_rfl) (by kernel_rfl) (by kernel_rfl) (fun _ _ _ h => h) rfl (by assumption) (fun w' hS' => by go_simp) ?_
          simp only [Act.put, List.setIfInBounds_toArray, List.set_cons_zero, List.set_cons_succ]
          refine takeL (i := 1) (v := (.int .u64 (k : Int))) rfl (by kernel_rfl) (by kernel_rfl) (by kernel_rfl) (fun _ _ _ h => h) rfl (by assumption) (fun w' hS' => by go_simp) ?_
          simp only [Act.put, List.setIfInBounds_toArray, List.set_cons_zero, List.set_cons_succ]
          refine takeL (i := 2) (v := (.slice (some ⟨g, 0, none⟩) n cap)) rfl (by kernel_rfl) (by kernel_rfl) (by kernel_rfl) (fun _ _ _ h => h) rfl (by assumption) (fun w' hS' => by go_simp) ?_
          simp only [Act.put, List.setIfInBounds_toArray, List.set_cons_zero, List.set_cons_succ]
          refine takeL (i := 3) (v := (.int .u64 (f : Int))) rfl (by kernel_rfl) (by kernel_rfl) (by kernel_rfl) (fun _ _ _ h => h) rfl (by assumption) (fun w' hS' => by go_simp) ?_
          simp only [Act.put, List.setIfInBounds_toArray, List.set_cons_zero, List.set_cons_succ]
          refine takeL (i := 4) (v := (.slice (some ⟨g, 0, none⟩) n cap)) rfl (by kernel_rfl) (by kernel_rfl) (by kernel_rfl) (fun _ _ _ h => h) rfl (by assumption) (fun w' hS' => by go_simp) ?_
          simp only [Act.put, List.setIfInBounds_toArray, List.set_cons_zero, List.set_cons_succ]
          refine takeL (i := 5) (v := (.int .u64 (f : Int))) rfl (by kernel_rfl) (by kernel_rfl) (by kernel_rfl) (fun _ _ _ h => h) rfl (by assumption) (fun w' hS' => by go_simp) ?_
          simp only [Act.put, List.setIfInBounds_toArray, List.set_cons_zero, List.set_cons_succ]
          refine takeL (i := 6) (v := (.pointer (some ⟨g, f, none⟩))) rfl (by kernel_rfl) (by kernel_rfl) (by kernel_rfl) (fun _ _ _ h => h) rfl (by assumption) (fun w' hS' => run_index_slice _ 37 22 (.tmp 77) (.tmp 78) rfl Tryd.underlying37 1 sz_u64 g 0 n cap rfl .u64 f rfl hflt f (by omega)) ?_
          simp only [Act.put, List.setIfInBounds_toArray, List.set_cons_zero, List.set_cons_succ]
          refine takeL (i := 8) (v := (.slice (some ⟨g, 0, none⟩) n cap)) rfl (by kernel_rfl) (by kernel_rfl) (by kernel_rfl) (fun _ _ _ h => h) rfl (by assumption) (fun w' hS' => by go_simp) ?_
          simp only [Act.put, List.setIfInBounds_toArray, List.set_cons_zero, List.set_cons_succ]
          refine takeL (i := 9) (v := (.int .u64 (k : Int))) rfl (by kernel_rfl) (by kernel_rfl) (by kernel_rfl) (fun _ _ _ h => h) rfl (by assumption) (fun w' hS' => by go_simp) ?_
          simp only [Act.put, List.setIfInBounds_toArray, List.set_cons_zero, List.set_cons_succ]
          refine takeL (i := 10) (v := (.pointer (some ⟨g, k, none⟩))) rfl (by kernel_rfl) (by kernel_rfl) (by kernel_rfl) (fun _ _ _ h => h) rfl (by assumption) (fun w' hS' => run_index_slice _ 37 22 (.tmp 81) (.tmp 82) rfl Tryd.underlying37 1 sz_u64 g 0 n cap rfl .u64 k rfl hlt k (by omega)) ?_
          simp only [Act.put, List.setIfInBounds_toArray, List.set_cons_zero, List.set_cons_succ]
          refine pairL (i := 7) (k := 11) (.int .u64 xf) (.int .u64 xk) (Wn := { W1 with drawn := W1.drawn + 1 }) rfl rfl (by kernel_rfl) (by kernel_rfl) (by kernel_rfl) rfl rfl rfl rfl (run_load_cell _ 22 _ (by rfl) ⟨g, f, none⟩ (by rfl) _ cf _ Tryd.underlying22 rfl) (run_load_cell _ 22 _ (by rfl) ⟨g, f, none⟩ (by rfl) _ cf _ Tryd.underlying22 rfl) (run_load_cell _ 22 _ (by rfl) ⟨g, k, none⟩ (by rfl) _ ck _ Tryd.underlying22 rfl) (run_load_cell _ 22 _ (by rfl) ⟨g, k, none⟩ (by rfl) _ ck _ Tryd.underlying22 rfl) trivial trivial (by kernel_rfl) (by rfl) ?_
          simp only [Act.put, List.setIfInBounds_toArray, List.set_cons_zero, List.set_cons_succ]
          refine takeL (i := 12) (v := (.pointer (some ⟨g, k, none⟩))) rfl (by kernel_rfl) (by kernel_rfl) (by kernel_rfl) (fun _ _ _ h => h) rfl (by assumption) (fun w' hS' => run_index_slice _ 37 22 (.tmp 73) (.tmp 74) rfl Tryd.underlying37 1 sz_u64 g 0 n cap rfl .u64 k rfl hlt k (by omega)) ?_
          simp only [Act.put, List.setIfInBounds_toArray, List.set_cons_zero, List.set_cons_succ]
          refine oneL (i := 13) rfl (by kernel_rfl) rfl (wp_storeU (.tmp 85) (.tmp 80) rfl base g n cap k M O1 rfl xf rfl (by rw [hrl'.out]; exact hlt) ?_)
          intro W3 hO3 hA3
          refine ⟨trivial, ?_⟩
          simp only [Act.put, List.setIfInBounds_toArray, List.set_cons_zero, List.set_cons_succ]
          refine takeL (i := 14) (v := (.pointer (some ⟨g, f, none⟩))) rfl (by kernel_rfl) (by kernel_rfl) (by kernel_rfl) (fun _ _ _ h => h) rfl (by assumption) (fun w' hS' => run_index_slice _ 37 22 (.tmp 75) (.tmp 76) rfl Tryd.underlying37 1 sz_u64 g 0 n cap rfl .u64 f rfl hflt f (by omega)) ?_
          simp only [Act.put, List.setIfInBounds_toArray, List.set_cons_zero, List.set_cons_succ]
          refine oneL (i := 15) rfl (by kernel_rfl) rfl (wp_storeU (.tmp 86) (.tmp 84) rfl base g n cap f (M.set k xf) hO3 rfl xk rfl (by rw [List.length_set, hrl'.out]; exact hflt) ?_)
          intro W4 hO4 hA4
          refine ⟨trivial, ?_⟩
          simp only [Act.put, List.setIfInBounds_toArray, List.set_cons_zero, List.set_cons_succ]
          refine wpAnyH_done (by kernel_rfl) ?_ _
          simp only [NoPan]
          have hfin : roundL p n bt L (k + 1) = (M.set k xf).set f xk := by rw [hsw'.out, if_pos ⟨c1, c2⟩, hxf, hxk]
          rw [← hfin] at hO4
          have gO4 := Lib.hid hO4
          have gA4 := Lib.hid (((gA.out.call B1').trans hA3).trans hA4)
          clear hO4 hA4 hO3 hA3 hfin hxf hxk cf ck O1 B1'
          go_wp2
          exact ⟨⟨k + 1, by omega, by go_num, gO4.out, gA4.out⟩, by simp [intOf]; omega⟩
        · have c3 : bt f = false := by simpa using c2
          rw [c3] at hbc
          go_wp2_with (first
            | ((with_reducible refine at_load 83 ?_); go_loud (refine wpList_value (by rfl) _ (run_load_box _ 83 _ (by rfl) nb1 (by rfl) _ #[.int .u64 (p : Int), .pointer (some ⟨d, 0, none⟩)] (0, 0) _ gr.out Tryd.underlying83 rfl (by rw [row_size row_round]; rfl)) ?_))
            | ((with_reducible refine hfl.out.mono ?_)
               rintro e W1 ⟨rfl, b1⟩
               have B1 := Lib.hid b1
               have hbc1 := Lib.hid (hbc.out _ b1)
               clear b1)
            | ((with_reducible refine at_iaddrC 32 ?_); go_loud (refine wpList_value (by rfl) _ (run_index_slice _ 32 24 (.tmp 66) (.tmp 68) rfl Tryd.underlying32 32 (row_size row_root) gb 0 nbl nbl rfl .u64 q rfl hql (32 * q) (by omega)) ?_))
            | ((with_reducible refine hbc1.out.mono ?_)
               rintro e W2 ⟨rfl, rfl⟩))
          exact ⟨⟨k + 1, by omega, by go_num, by rw [hsw'.out, if_neg (fun h => c2 h.2)]; exact gO.out.later B1.out, gA.out.call B1.out⟩, by simp [intOf]; omega⟩
      · have c1I : decide ((k : Int) < (f : Int)) = false := by simp; omega
        have hbc := Lib.hid (fun W1 (hb : Below wr.heap.size wr W1) => True.intro)
        have hql : 0 ≤ 0 := Nat.le_refl _
        go_wp2_with (first
          | ((with_reducible refine at_load 83 ?_); go_loud (refine wpList_value (by rfl) _ (run_load_box _ 83 _ (by rfl) nb1 (by rfl) _ #[.int .u64 (p : Int), .pointer (some ⟨d, 0, none⟩)] (0, 0) _ gr.out Tryd.underlying83 rfl (by rw [row_size row_round]; rfl)) ?_))
          | ((with_reducible refine hfl.out.mono ?_)
             rintro e W1 ⟨rfl, b1⟩
             have B1 := Lib.hid b1
             have hbc1 := Lib.hid (hbc.out _ b1)
             clear b1)
          | ((with_reducible refine at_iaddrC 32 ?_); go_loud (refine wpList_value (by rfl) _ (run_index_slice _ 32 24 (.tmp 66) (.tmp 68) rfl Tryd.underlying32 32 (row_size row_root) gb 0 nbl nbl rfl .u64 q rfl hql (32 * q) (by omega)) ?_))
          | ((with_reducible refine hbc1.out.mono ?_)
             rintro e W2 ⟨rfl, rfl⟩))
        exact ⟨⟨k + 1, by omega, by go_num, by rw [hsw'.out, if_neg (fun h => c1 h.1)]; exact gO.out.later B1.out, gA.out.call B1.out⟩, by simp [intOf]; omega⟩
    · have e : k = n := by omega
      subst e
      go_wp2
      exact hQ'.out _ _ (by kernel_rfl) (hbt'.out ▸ gO.out) gA.out
end Go.Proofs.YtfnjcpopadpmbaaDoor
namespace Go.Proofs.YtfnjcpopadpmbaaDoor
open Go.RowKit BigFrame
set_option maxRecDepth 100000
theorem run_build0u (w : World) : (Instr.buildSlice 37 0 #[]).run Tryd.prog w = .ok (.slice (some ⟨w.heap.size, 0, none⟩) 0 0) (w.alloc (.cells #[] 22)) := by kernel_rfl
theorem wp_build0u {o : Oper} {a : Act} {w : World} {K : Act → World → Prop} {Q : Exit → Act → World → Prop} (ho : o.op = .buildSlice 37 0 #[]) (h : K (a.put o.dst (.slice (some ⟨w.heap.size, 0, none⟩) 0 0)) (w.alloc (.cells #[] 22))) : o.wp Tryd.prog a w K Q := by
  unfold Oper.wp execOp
  have e : (#[] : Array (Nat × Operand)).map (fun x => match x with | (i, x) => (i, a.eval x)) = #[] := by simp
  simp only [ho, e, Sem.run_bind, run_build0u w, Result.andThen_ok]
  exact h
theorem info_u64 : (Tryd.prog.info? 22).map (fun i => (i.zero, i.size, i.bytes)) = some (some (.int .u64 0), 1, 8) := by kernel_rfl
theorem mem_u64 {l : List Int} : ∀ v ∈ l.map (Value.int .u64), v.oneCell' = true := fun v hv => by
  obtain ⟨n, _, rfl⟩ := List.mem_map.1 hv
  rfl
theorem run_eql_nil64 (a : Addr) (n c : Nat) (w : World) : (binOp BinOp.eql 37 (.slice (some a) n c) (.slice none 0 0)).run Tryd.prog w = .ok (.bool false) w := by kernel_rfl
theorem OwU.nil (base : Nat) (w : World) : OwU base (.slice none 0 0) [] w := ⟨rfl, Or.inl ⟨rfl, rfl⟩⟩
set_option maxHeartbeats 1000000 in
theorem clone_nil (w : World) :
    Calls Tryd.prog 23 #[.slice none 0 0] w fun e w' => e = .returned (.slice none 0 0) ∧ w' = w := by
  have heq : ∀ w, (binOp BinOp.eql 37 (.slice none 0 0) (.slice none 0 0)).run Tryd.prog w = .ok (.bool true) w := fun w => by kernel_rfl
  go_enter Tryd.func23, Tryd.ntmps23
  go_wp2
  exact ret_t1 rfl _ rfl rfl ⟨rfl, rfl⟩
set_option maxHeartbeats 1000000 in
theorem clone_some (l : List Int) (b o c : Nat) (w : World) (hr0 : w.rangeAt b o (l.map (Value.int .u64))) (hfew : l.length ≤ 1000000) :
    Calls Tryd.prog 23 #[.slice (some ⟨b, o, none⟩) l.length c] w fun e w' => ∃ v, e = .returned v ∧ OwU w.heap.size v l w' ∧ Below w.heap.size w w' := by
  have hr := Lib.hid (show (w.alloc (.cells #[] 22)).rangeAt b o (l.map (Value.int .u64)) from fun j u hu => (Below.cell ((Below.refl w.heap.size w).alloc (Nat.le_refl _) _) (block_lt_of_cell (hr0 j u hu))).trans (hr0 j u hu))
  clear hr0
  have heq := fun w => run_eql_nil64 ⟨b, o, none⟩ l.length c w
  obtain ⟨n, hn⟩ : ∃ n, n = l.length := ⟨_, rfl⟩
  have hl := Lib.hid (show (l.map (Value.int .u64)).length = n * 1 by rw [List.length_map, hn, Nat.mul_one])
  have hn' := Lib.hid hn
  rw [← hn] at heq hfew ⊢
  clear hn
  go_enter Tryd.func23, Tryd.ntmps23
  go_wp2_with (first
    | ((with_reducible refine at_bslice 37 ?_); go_loud (refine wpList_plain rfl fun K hK => wp_build0u rfl (hK _ _ ?_)); clear hK K)
    | ((with_reducible refine at_appC 37 ?_)
       go_loud (refine wpList_plain rfl fun K hK => wp_appS (w0 := w) (n0 := w.heap.size) (.tmp 5) (.tmp 6) 37 22 rfl Tryd.underlying37 (.int .u64 0) 1 8 info_u64 rfl (by decide) w.heap.size 0 (.slice (some ⟨w.heap.size, 0, none⟩) 0 0) [] rfl ⟨rfl, Or.inr ⟨w.heap.size, 0, #[], rfl, Nat.le_refl _, heap_new _ _ _ _ rfl, by decide, by decide, by simp, by simp⟩⟩ ⟨b, o, none⟩ n c rfl (l.map (Value.int .u64)) hl.out hr.out rfl mem_u64 (by omega) (by omega) (by simp) (Nat.le_refl _) ((Below.refl _ _).alloc (Nat.le_refl _) _) (fun v' W1 h1 h2 h3 h4 h5 => hK _ _ ?_))
       clear hK K
       rw [List.nil_append, Nat.zero_add] at h1
       have g1 := Lib.hid h1
       have g2 := Lib.hid h2
       clear h1 h2 h3 h4 h5))
  exact ret_t1 rfl _ rfl rfl ⟨_, rfl, by unfold OwU; rw [← hn'.out]; exact g1.out, g2.out⟩
end Go.Proofs.YtfnjcpopadpmbaaDoor
