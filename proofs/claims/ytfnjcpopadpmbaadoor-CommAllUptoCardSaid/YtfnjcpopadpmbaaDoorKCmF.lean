/- The blocks of a round are reckoned. -/
import Derived.Test.YtfnjcpopadpmbaaDoorKCmE
set_option linter.unusedVariables false
set_option linter.unusedSimpArgs false
set_option linter.unnecessarySimpa false
namespace Go.Proofs.YtfnjcpopadpmbaaDoor
open Go.RowKit BigFrame
set_option maxRecDepth 100000
/-- A store of some cells into a block that is known. -/
theorem wp_store_part {P : Program} {o : Oper} {a : Act} {w : World} {K : Act → World → Prop} {Q : Exit → Act → World → Prop} (ty : TypeId) (x y : Operand) (ho : o.op = .store ty x y) (b k : Nat) (hx : a.eval x = .pointer (some ⟨b, k, none⟩)) (cs : Array Value) (hy : a.eval y = .agg cs) (h1 : cs.all (·.oneCell') = true)
    (hz : (P.info? ty).map (·.size) = some cs.size) (C : Array Value) (t : TypeId) (hC : w.heap[b]? = some (.cells C t (0, 0))) (hk : k + cs.size ≤ C.size)
    (h : ∀ W, W.heap[b]? = some (.cells (splice C.toList k cs.toList).toArray t (0, 0)) → Apart b w W → K (a.put o.dst undef) W) : o.wp P a w K Q := by
  have ht : w.there b k cs.size := fun j hj => by
    refine ⟨?_, Joins.unfrozen_of_block hC _⟩
    rw [cell_of_row w b (k + j) C _ _ hC, Array.getElem?_eq_getElem (by omega)]
    rfl
  have hs := run_storeAt_mid (P := P) w b k ty cs ht hz h1
  have hr := World.rangeAt_setCells_same w b k cs.toList (by simpa using ht)
  have hbl : (w.setCells b k cs.toList).heap[b]? = some (.cells (splice C.toList k cs.toList).toArray t (0, 0)) := by
    have key : ∀ (vs : List Value) (o : Nat) (w : World) (C : Array Value), w.heap[b]? = some (.cells C t (0, 0)) → ∃ C' : Array Value, (w.setCells b o vs).heap[b]? = some (.cells C' t (0, 0)) ∧ C'.size = C.size := by
      intro vs
      induction vs with
      | nil => intro o w C h; exact ⟨C, h, rfl⟩
      | cons v vs ih =>
        intro o w C h
        obtain ⟨C', h1, h2⟩ := ih (o + 1) _ _ (Joins.block_setCell (i := o) h v)
        exact ⟨C', h1, by simpa using h2⟩
    obtain ⟨C', h1, h2⟩ := key cs.toList k w C hC
    have hl : k + cs.toList.length ≤ C.toList.length := by simpa using hk
    suffices e : C' = (splice C.toList k cs.toList).toArray by rw [h1, e]
    apply Array.ext_getElem?
    intro j
    rw [show (splice C.toList k cs.toList).toArray[j]? = (splice C.toList k cs.toList)[j]? from by simp, splice_get hl, Array.length_toList]
    by_cases c : k ≤ j ∧ j < k + cs.size
    · rw [if_neg (by omega), if_pos c.2]
      have := hr (j - k) cs[j - k] (by simp [show j - k < cs.size by omega])
      rw [show k + (j - k) = j by omega, cell_of_row _ b j C' _ _ h1] at this
      rw [this]
      simp [show j - k < cs.size by omega]
    · have ho2 := World.cell?_setCells_out b cs.toList k w ⟨b, j, none⟩ (fun _ _ => by simp only [Array.length_toList]; omega)
      rw [cell_of_row _ b j C' _ _ h1, cell_of_row _ b j C _ _ hC] at ho2
      rw [ho2]
      by_cases c1 : j < k
      · rw [if_pos c1]; simp
      · rw [if_neg c1, if_neg (by omega)]; simp
  unfold Oper.wp execOp
  simp only [ho, hx, hy, Sem.run_bind, hs, Result.andThen, Sem.run_pure, Oper.upon_skip]
  exact h _ hbl ((Apart.refl _ _).setCells b k _ (Or.inl rfl))
theorem TabC.apart {w W : World} {n : Nat} (h : TabC w) (hn : 2 ≤ n) (hb : Apart n w W) : TabC W := by
  have hs := h.size
  exact ⟨fun j hj => (hb.cell (by simp only; omega) (by simp only; omega)).trans (h.start j hj), fun j hj => (hb.cell (by simp only; omega) (by simp only; omega)).trans (h.round j hj)⟩
/-- The first k blocks of a round. -/
def BlkI (gb nbl : Nat) (sd : Nat → Int) (r k : Nat) (W : World) : Prop :=
  ∃ B : Array Value, W.heap[gb]? = some (.cells B 24 (0, 0)) ∧ B.size = nbl * 32 ∧ ∀ i, i < k → ∀ j, j < 32 → B[32 * i + j]? = some (.int .u8 (blkS sd r i j))
theorem BlkI.step {gb nbl r k : Nat} {sd : Nat → Int} {B : Array Value} {W : World} (hs : B.size = nbl * 32) (hB : ∀ i, i < k → ∀ j, j < 32 → B[32 * i + j]? = some (.int .u8 (blkS sd r i j))) (hk : k < nbl)
    (h : W.heap[gb]? = some (.cells (splice B.toList (32 * k) (rootV (blkS sd r k)).toList).toArray 24 (0, 0))) : BlkI gb nbl sd r (k + 1) W := by
  have hl : (rootV (blkS sd r k)).toList.length = 32 := by simp [fcells]
  have hf : 32 * k + (rootV (blkS sd r k)).toList.length ≤ B.toList.length := by rw [hl, Array.length_toList, hs]; omega
  refine ⟨_, h, by rw [List.size_toArray, splice_length hf, Array.length_toList, hs], fun i hi j hj => ?_⟩
  rw [List.getElem?_toArray, splice_get hf, hl]
  by_cases e : i = k
  · subst e
    rw [if_neg (by omega), if_pos (by omega), show 32 * i + j - 32 * i = j by omega]
    show (fcells 32 (fun _ => .u8) (blkS sd r i))[j]? = _
    rw [fcells_get _ _ _ _ hj]
    rfl
  · rw [if_pos (by omega)]
    simpa using hB i (by omega) j hj
def LsA (vo : Value) (n : Nat) (vr : Value) (r : Int) (nb1 gb nbl : Nat) (u : Nat → Value) : Act := { tmps := #[u 0, u 1, u 2, u 3, u 4, u 5, vo, .int .u64 (n : Int), vr, .int .i64 r, .pointer (some ⟨nb1, 0, none⟩), .slice (some ⟨gb, 0, none⟩) nbl nbl, u 12, u 13, u 14, u 15, u 16, u 17, u 18, u 19, u 20, u 21, u 22, u 23, u 24, u 25, u 26, u 27, u 28, u 29, u 30, u 31, u 32, u 33, u 34, u 35, u 36, u 37, u 38, u 39, u 40, u 41, .int .i64 (nbl : Int), .int .i64 0, u 44, u 45, u 46, u 47, u 48, u 49, u 50, u 51, u 52, u 53, u 54, u 55, u 56, u 57, u 58, u 59, u 60, u 61, u 62, u 63, u 64, u 65, u 66, u 67, u 68, u 69, u 70, u 71, u 72, u 73, u 74, u 75, u 76, u 77, u 78, u 79, u 80, u 81, u 82, u 83, u 84, u 85, u 86, u 87, u 88, u 89, u 90], defers := [] }
def LsB (vo : Value) (n : Nat) (vr : Value) (r : Int) (nb1 gb nbl : Nat) (u : Nat → Value) : Act := { tmps := #[u 0, u 1, u 2, u 3, u 4, u 5, vo, .int .u64 (n : Int), vr, .int .i64 r, .pointer (some ⟨nb1, 0, none⟩), .slice (some ⟨gb, 0, none⟩) nbl nbl, u 12, u 13, u 14, u 15, u 16, u 17, u 18, u 19, u 20, u 21, u 22, u 23, u 24, u 25, u 26, u 27, u 28, u 29, u 30, u 31, u 32, u 33, u 34, u 35, u 36, u 37, u 38, u 39, u 40, u 41, u 42, u 43, u 44, u 45, u 46, u 47, u 48, u 49, u 50, u 51, u 52, u 53, u 54, u 55, u 56, u 57, u 58, u 59, u 60, u 61, u 62, u 63, u 64, u 65, u 66, u 67, u 68, u 69, u 70, u 71, u 72, u 73, u 74, u 75, u 76, u 77, u 78, u 79, u 80, u 81, u 82, u 83, u 84, u 85, u 86, u 87, u 88, u 89, u 90], defers := [] }
def LsC (vo : Value) (n : Nat) (vr : Value) (r : Int) (nb1 gb nbl : Nat) (u : Nat → Value) : Act := { tmps := #[u 0, u 1, u 2, u 3, u 4, u 5, vo, .int .u64 (n : Int), vr, .int .i64 r, .pointer (some ⟨nb1, 0, none⟩), .slice (some ⟨gb, 0, none⟩) nbl nbl, u 12, u 13, u 14, u 15, u 16, u 17, u 18, u 19, u 20, u 21, u 22, u 23, u 24, u 25, u 26, u 27, u 28, u 29, u 30, u 31, u 32, u 33, u 34, u 35, u 36, u 37, u 38, u 39, u 40, u 41, u 42, u 43, u 44, u 45, u 46, u 47, u 48, u 49, u 50, u 51, u 52, u 53, .int .u64 (n : Int), .int .u64 0, u 56, u 57, u 58, u 59, u 60, u 61, u 62, u 63, u 64, u 65, u 66, u 67, u 68, u 69, u 70, u 71, u 72, u 73, u 74, u 75, u 76, u 77, u 78, u 79, u 80, u 81, u 82, u 83, u 84, u 85, u 86, u 87, u 88, u 89, u 90], defers := [] }
def LsD (vo : Value) (n : Nat) (vr : Value) (r : Int) (u : Nat → Value) : Act := { tmps := #[u 0, u 1, u 2, u 3, u 4, u 5, vo, .int .u64 (n : Int), vr, .int .i64 r, u 10, u 11, u 12, u 13, u 14, u 15, u 16, u 17, u 18, u 19, u 20, u 21, u 22, u 23, u 24, u 25, u 26, u 27, u 28, u 29, u 30, u 31, u 32, u 33, u 34, u 35, u 36, u 37, u 38, u 39, u 40, u 41, u 42, u 43, u 44, u 45, u 46, u 47, u 48, u 49, u 50, u 51, u 52, u 53, u 54, u 55, u 56, u 57, u 58, u 59, u 60, u 61, u 62, u 63, u 64, u 65, u 66, u 67, u 68, u 69, u 70, u 71, u 72, u 73, u 74, u 75, u 76, u 77, u 78, u 79, u 80, u 81, u 82, u 83, u 84, u 85, u 86, u 87, u 88, u 89, u 90], defers := [] }
noncomputable def blkBody : Code := blockIn 0 Tryd.f21
theorem row_round : rowB Tryd.prog 83 2 = true := by kernel_rfl
set_option maxHeartbeats 8000000 in
theorem blk_loop {Q : Exit → Act → World → Prop} {a : Act} (vo : Value) (n : Nat) (vr : Value) (r : Int) (nb1 gb nbl d k0 : Nat) (pv : Int) (sd : Nat → Int) (W : World) (hsd0 : IsR sd) (hk0 : k0 < 256) (hnb : nbl ≤ 65536) (hT0 : TabC W)
    (hgb : 2 ≤ gb) (h1 : W.heap[nb1]? = some (.cells #[.int .u64 pv, .pointer (some ⟨d, 0, none⟩)] 83 (0, 0))) (hd0 : W.heap[d]? = some (.cells (dgC (dgl sd k0)) 104 (0, 0))) (hn1 : nb1 ≠ gb) (hn2 : d ≠ gb)
    (ha : a = LsA vo n vr r nb1 gb nbl (fun k => a.tmps.getD k undef)) (hB : BlkI gb nbl sd k0 0 W) (hQ : ∀ a w', a = LsB vo n vr r nb1 gb nbl (fun k => a.tmps.getD k undef) → BlkI gb nbl sd k0 nbl w' → Apart gb W w' → Q .normal a w') : blkBody.wp Tryd.prog (Exit.inBlock 0 Q) a W := by
  rw [ha]
  generalize (fun k => a.tmps.getD k undef) = u
  clear ha a
  unfold LsA
  have hsd := Lib.hid hsd0
  have hT := Lib.hid hT0
  have hr1 := Lib.hid h1
  have hd := Lib.hid hd0
  have hBI := Lib.hid hB
  have hQ' := Lib.hid hQ
  have hne1 := Lib.hid hn1
  have hne2 := Lib.hid hn2
  have hgb' := Lib.hid hgb
  clear hsd0 hT0 h1 hd0 hB hQ hn1 hn2 hgb
  simp only [blkBody, blockIn, blockOf, Tryd.f21, reduceIte, Nat.reduceEqDiff]
  go_loopw [43] (fun i wr => ∃ k : Nat, k ≤ nbl ∧ i = .int .i64 k ∧ BlkI gb nbl sd k0 k wr ∧ Apart gb W wr) (fun i _ => nbl - (intOf i).toNat)
  case atStart => exact ⟨0, by omega, rfl, hBI.out, Apart.refl _ _⟩
  case round =>
    obtain ⟨k, hk, rfl, ⟨B, hB1, hB2, hB3⟩, hA⟩ := hrel
    have gB := Lib.hid hB1
    have gS := Lib.hid hB2
    have gC := Lib.hid hB3
    have gA := Lib.hid hA
    clear hB1 hB2 hB3 hA hBI
    by_cases hlt : k < nbl
    · have lk : (k : Int) < (nbl : Int) := by omega
      have wk : IntKind.u64.wrap (k : Int) = (k : Int) := by rw [IntKind.wrap_u64]; omega
      have gr := Lib.hid ((gA.out.block nb1 (blk_lt hr1.out) hne1.out).trans hr1.out)
      have hbk := Lib.hid (block_any14 d k0 k pv sd hsd.out hk0 wr ((gA.out.block d (blk_lt hd.out) hne2.out).trans hd.out) (hT.out.apart hgb'.out gA.out))
      go_wp2_with (first
        | ((with_reducible refine at_load 83 ?_); go_loud (refine wpList_value (by rfl) _ (run_load_box _ 83 _ (by rfl) nb1 (by rfl) _ #[.int .u64 pv, .pointer (some ⟨d, 0, none⟩)] (0, 0) _ gr.out Tryd.underlying83 rfl (by rw [row_size row_round]; rfl)) ?_))
        | ((with_reducible refine hbk.out.mono ?_)
           rintro e W1 ⟨rfl, b1⟩
           have hB1 := Lib.hid ((b1.block gb (blk_lt gB.out)).trans gB.out)
           have hA1 := Lib.hid (gA.out.call b1)
           clear b1)
        | ((with_reducible refine at_iaddrC 32 ?_); go_loud (refine wpList_value (by rfl) _ (run_index_slice _ 32 24 (.tmp 46) (.tmp 47) rfl Tryd.underlying32 32 (row_size row_root) gb 0 nbl nbl rfl .i64 k rfl hlt (32 * k) (by omega)) ?_))
        | ((with_reducible refine at_store 24 ?_)
           go_loud (refine wpList_plain rfl fun K hK => wp_store_part 24 (.tmp 52) (.tmp 51) rfl gb (32 * k) rfl (rootV (blkS sd k0 k)) rfl (fcells_one _ _ _) (by rw [row_size row_root]; simp [fcells]) B 24 hB1.out (by rw [gS.out]; simp [fcells]; omega) (fun W2 hC2 hA2 => hK _ _ ?_))
           clear hK K
           have hB2 := Lib.hid (BlkI.step gS.out gC.out hlt hC2)
           have hA3 := Lib.hid (hA1.out.trans hA2)
           clear hC2 hA2))
      exact ⟨⟨k + 1, by omega, by go_num, hB2.out, hA3.out⟩, by simp [intOf]; omega⟩
    · have e : k = nbl := by omega
      subst e
      go_wp2
      exact hQ'.out _ _ (by kernel_rfl) ⟨B, gB.out, gS.out, gC.out⟩ gA.out
end Go.Proofs.YtfnjcpopadpmbaaDoor
