/- A rising list that is put together of two rising lists: how one walks all three. -/
/- The first loop of the law CommBits: three lists of bits. -/
import Derived.Test.YtfnjcpopadpmbaaDoorKCbA
import Derived.Test.YtfnjcpopadpmbaaDoorKCmT
set_option linter.unusedVariables false
set_option linter.unusedSimpArgs false
set_option linter.unnecessarySimpa false
namespace Go.Proofs.YtfnjcpopadpmbaaDoor
open Go.RowKit BigFrame
set_option maxRecDepth 100000
/-- Of c the first k are gone, of a the first i, of b the others. -/
structure Mrg (a b c : List Int) (i k : Nat) : Prop where
  ia : i ≤ a.length
  ik : i ≤ k
  kb : k - i ≤ b.length
  kc : k ≤ c.length
  perm : (c.drop k).Perm (a.drop i ++ b.drop (k - i))
theorem Mrg.start {a b c : List Int} (h : c.Perm (a ++ b)) : Mrg a b c 0 0 := ⟨Nat.zero_le _, Nat.le_refl _, Nat.zero_le _, Nat.zero_le _, by simpa using h⟩
theorem drop_cons (l : List Int) (k : Nat) (h : k < l.length) : l.drop k = l.getD k 0 :: l.drop (k + 1) := by
  rw [List.drop_eq_getElem_cons h]
  simp [List.getD, h]
theorem drop_le {l : List Int} (s : l.Pairwise (· ≤ ·)) (k : Nat) (m : Int) (h : m ∈ l.drop k) : k < l.length ∧ l.getD k 0 ≤ m := by
  have hk : k < l.length := by
    rcases Nat.lt_or_ge k l.length with h' | h'
    · exact h'
    · rw [List.drop_eq_nil_of_le h'] at h; cases h
  refine ⟨hk, ?_⟩
  have hs := s.sublist (List.drop_sublist k l)
  rw [drop_cons l k hk] at h hs
  rcases List.mem_cons.1 h with h | h
  · rw [h]; exact Int.le_refl _
  · exact (List.pairwise_cons.1 hs).1 m h
theorem Mrg.next {a b c : List Int} {i k : Nat} (h : Mrg a b c i k) (sa : a.Pairwise (· ≤ ·)) (sb : b.Pairwise (· ≤ ·)) (sc : c.Pairwise (· ≤ ·)) (hk : k < c.length) : (i < a.length ∧ a.getD i 0 = c.getD k 0) ∨ (k - i < b.length ∧ b.getD (k - i) 0 = c.getD k 0) := by
  have h1 : c.getD k 0 ∈ a.drop i ++ b.drop (k - i) := h.perm.mem_iff.1 (by rw [drop_cons c k hk]; exact List.mem_cons_self)
  have low : ∀ m, m ∈ a.drop i ++ b.drop (k - i) → c.getD k 0 ≤ m := fun m hm => (drop_le sc k m (h.perm.mem_iff.2 hm)).2
  rcases List.mem_append.1 h1 with h2 | h2
  · obtain ⟨h3, h4⟩ := drop_le sa i _ h2
    left
    refine ⟨h3, Int.le_antisymm h4 (low _ (List.mem_append_left _ ?_))⟩
    rw [drop_cons a i h3]
    exact List.mem_cons_self
  · obtain ⟨h3, h4⟩ := drop_le sb (k - i) _ h2
    right
    refine ⟨h3, Int.le_antisymm h4 (low _ (List.mem_append_right _ ?_))⟩
    rw [drop_cons b (k - i) h3]
    exact List.mem_cons_self
theorem Mrg.stepA {a b c : List Int} {i k : Nat} (h : Mrg a b c i k) (hk : k < c.length) (hi : i < a.length) (e : a.getD i 0 = c.getD k 0) : Mrg a b c (i + 1) (k + 1) := by
  have hik := h.ik
  have hp := h.perm
  rw [drop_cons c k hk, drop_cons a i hi, e, List.cons_append] at hp
  exact ⟨hi, by omega, by have := h.kb; omega, hk, by rw [show k + 1 - (i + 1) = k - i by omega]; exact hp.cons_inv⟩
theorem Mrg.stepB {a b c : List Int} {i k : Nat} (h : Mrg a b c i k) (hk : k < c.length) (hj : k - i < b.length) (e : b.getD (k - i) 0 = c.getD k 0) : Mrg a b c i (k + 1) := by
  have hik := h.ik
  have hp := h.perm
  rw [drop_cons c k hk, drop_cons b (k - i) hj, e] at hp
  refine ⟨h.ia, by omega, by omega, hk, ?_⟩
  rw [show k + 1 - i = k - i + 1 by omega]
  exact (hp.trans List.perm_middle).cons_inv
theorem Mrg.done {a b c : List Int} {i k : Nat} (h : Mrg a b c i k) (hk : k = c.length) : i = a.length := by
  have hp := h.perm
  rw [hk, List.drop_length] at hp
  have h1 := hp.length_eq
  have h2 := h.ia
  simp at h1
  omega
theorem msort_lt {l : List Int} (d : Dis l) {i k : Nat} (h : i < k) (hk : k < l.length) : (msort l).getD i 0 < (msort l).getD k 0 := by
  have hk' : k < (msort l).length := by rw [msort_length]; exact hk
  have h1 := List.pairwise_iff_getElem.1 (msort_pair l) i k (by omega) hk' h
  have d2 : Dis (msort l) := (msort_perm l).nodup_iff.2 d
  have h2 := d2.ne (i := i) (j := k) (by omega) hk' (by omega)
  have e1 : (msort l).getD i 0 = (msort l)[i] := by simp [List.getD, show i < (msort l).length by omega]
  have e2 : (msort l).getD k 0 = (msort l)[k] := by simp [List.getD, hk']
  rw [← e1, ← e2] at h1
  omega
/-- A slice of numbers: what stands there. -/
def RowU (w : World) (va : Option Addr) (n : Nat) (l : List Int) : Prop := ∀ j, j < n → ∃ b, va = some ⟨b, 0, none⟩ ∧ w.cell? ⟨b, j, none⟩ = some (.int .u64 (l.getD j 0))
theorem RowU.later {w W : World} {va : Option Addr} {n : Nat} {l : List Int} (h : RowU w va n l) (hb : Below w.heap.size w W) : RowU W va n l := fun j hj => by
  obtain ⟨b, e, hc⟩ := h j hj
  exact ⟨b, e, (hb.cell (block_lt_of_cell hc)).trans hc⟩
theorem OwU.row {base : Nat} {v : Value} {l : List Int} {w : World} (h : OwU base v l w) : ∃ va c, v = .slice va l.length c ∧ RowU w va l.length l := by
  obtain ⟨va, c, rfl, _⟩ := own_form h
  refine ⟨va, c, rfl, fun j hj => ?_⟩
  rcases h.2 with ⟨_, h2⟩ | ⟨g, cap, cur, h2, _⟩
  · omega
  · cases h2
    exact ⟨g, rfl, h.cell j hj⟩
end Go.Proofs.YtfnjcpopadpmbaaDoor
namespace Go.Proofs.YtfnjcpopadpmbaaDoor
open Go.RowKit BigFrame
set_option maxRecDepth 100000
def bl (F : Nat → Bool) (k : Nat) : List Value := (List.range k).map fun i => Value.bool (F i)
theorem bl_succ (F : Nat → Bool) (k : Nat) (b : Bool) (h : b = F k) : bl F k ++ [Value.bool b] = bl F (k + 1) := by
  unfold bl
  rw [List.range_succ, List.map_append, h]
  rfl
theorem bl_get (F : Nat → Bool) (k j : Nat) (h : j < k) : (bl F k)[j]? = some (.bool (F j)) := by simp [bl, h]
def threeL (a b c : Value) (k1 k2 k3 : Nat) (x1 x2 x3 : List Value) : List Ow := [⟨4, 1, a, k1, x1⟩, ⟨4, 1, b, k2, x2⟩, ⟨4, 1, c, k3, x3⟩]
structure TriW (base : Nat) (w : World) (L : List Ow) (W : World) : Prop where
  own : OwL base L W
  below : Below base w W
  size : base ≤ W.heap.size
theorem TriW.later {base : Nat} {w : World} {L : List Ow} {W W' : World} (h : TriW base w L W) (hb : Below W.heap.size W W') : TriW base w L W' :=
  ⟨h.own.later hb, h.below.trans (hb.mono h.size), Nat.le_trans h.size hb.size⟩
theorem three_nil (base : Nat) (w : World) : OwL base (threeL (.slice none 0 0) (.slice none 0 0) (.slice none 0 0) 0 0 0 [] [] []) w := by
  refine ⟨fun i x hx => ?_, fun i j x y _ hx hy k hk => ?_⟩
  · rcases i with _ | _ | _ | i
    all_goals first
      | (cases hx; exact ⟨rfl, Or.inl ⟨rfl, rfl⟩⟩)
      | (simp [threeL] at hx)
  · rcases i with _ | _ | _ | i
    all_goals first
      | (cases hx; cases hk)
      | (simp [threeL] at hx)
theorem info_bool : (Tryd.prog.info? 4).map (fun i => (i.zero, i.size, i.bytes)) = some (some (.bool false), 1, 1) := by kernel_rfl
theorem info_bool2 : (Tryd.prog.info? 4).map (fun i => (i.zero, i.size)) = some (some (.bool false), 1) := by kernel_rfl
theorem own_rowBo {base n : Nat} {v : Value} {F : Nat → Bool} {w : World} (h : w.ownsRow base 4 1 v n (bl F n)) : ∃ va c, v = .slice va n c ∧ RowBo w va n F := by
  obtain ⟨va, c, rfl, _⟩ := own_form h
  refine ⟨va, c, rfl, fun j hj => ?_⟩
  obtain ⟨b, o, e, hc⟩ := own_rowV h j (.bool (F j)) (bl_get F n j hj)
  exact ⟨b, o, e, hc⟩
def lbC (xs : Array Value) (slot idx : Nat) (vb : Value) (bx : Nat) (vl a b c i : Value) (u : Nat → Value) : Act := { tmps := #[.agg xs, .int .u64 (slot : Int), .int .u64 (idx : Int), vb, .pointer (some ⟨bx, 0, none⟩), u 5, u 6, u 7, u 8, vl, u 10, a, b, c, i, u 15, u 16, u 17, u 18, u 19, u 20, u 21, u 22, u 23, u 24, u 25, u 26, u 27, u 28, u 29, u 30, u 31, u 32, u 33, u 34, u 35, u 36, u 37, u 38, u 39, u 40, u 41, u 42, u 43, u 44, u 45, u 46, u 47, u 48, u 49, u 50, u 51, u 52, u 53, u 54, u 55, u 56, u 57, u 58, u 59, u 60, u 61, u 62, u 63, u 64, u 65, u 66, u 67, u 68, u 69, u 70, u 71, u 72, u 73, u 74, u 75, u 76, u 77, u 78, u 79, u 80, u 81, u 82, u 83, u 84, u 85, u 86, u 87, u 88, u 89, u 90, u 91, u 92, u 93, u 94, u 95, u 96, u 97, u 98, u 99, u 100, u 101, u 102, u 103, u 104, u 105, u 106, u 107, u 108, u 109, u 110, u 111, u 112, u 113, u 114, u 115, u 116, u 117, u 118, u 119, u 120, u 121, u 122, u 123, u 124, u 125, u 126, u 127, u 128, u 129, u 130, u 131, u 132, u 133, u 134, u 135, u 136, u 137, u 138, u 139, u 140, u 141, u 142, u 143, u 144, u 145, u 146, u 147, u 148, u 149, u 150, u 151, u 152, u 153, u 154, u 155, u 156, u 157, u 158, u 159, u 160, u 161, u 162, u 163, u 164, u 165, u 166, u 167, u 168, u 169, u 170, u 171, u 172, u 173, u 174, u 175, u 176, u 177, u 178, u 179, u 180, u 181, u 182, u 183, u 184, u 185, u 186, u 187, u 188, u 189, u 190, u 191], defers := [] }
noncomputable def lbBody : Code := blockIn 0 Tryd.f4
set_option maxHeartbeats 16000000 in
theorem bits_loop {Q : Exit → Act → World → Prop} {A : Act} (xs : Array Value) (slot idx bx n lc nb c : Nat) (lva va : Option Addr) (f F nF : Nat → Bool) (W : World) (hn : n ≤ 65536) (hbo0 : RowBo W va nb f) (hF0 : ∀ k, F k = (decide (k < nb) && f k)) (hG0 : ∀ k, nF k = !F k)
    (ha : A = lbC xs slot idx (.slice va nb c) bx (.slice lva n lc) (.slice none 0 0) (.slice none 0 0) (.slice none 0 0) (.int .i64 0) (fun k => A.tmps.getD k undef))
    (hQ : ∀ A' w' a b c1, A' = lbC xs slot idx (.slice va nb c) bx (.slice lva n lc) a b c1 (.int .i64 (n : Int)) (fun k => A'.tmps.getD k undef) → TriW W.heap.size W (threeL a b c1 n n n (bl F n) (bl nF n) (bl (fun _ => true) n)) w' → Q .normal A' w') : lbBody.wp Tryd.prog (Exit.inBlock 0 Q) A W := by
  rw [ha]
  generalize (fun k => A.tmps.getD k undef) = u
  clear ha A
  unfold lbC
  have gbo := Lib.hid hbo0
  have gF := Lib.hid hF0
  have gG := Lib.hid hG0
  have gQ := Lib.hid hQ
  clear hbo0 hF0 hG0 hQ
  simp only [lbBody, blockIn, blockOf, Tryd.f4, reduceIte, Nat.reduceEqDiff]
  obtain ⟨base, hbase⟩ : ∃ base, base = W.heap.size := ⟨_, rfl⟩
  have gbase := Lib.hid hbase
  clear hbase
  go_loopw [11, 12, 13, 14] (fun a b c1 i wr => ∃ k : Nat, k ≤ n ∧ i = .int .i64 (k : Int) ∧ TriW base W (threeL a b c1 k k k (bl F k) (bl nF k) (bl (fun _ => true) k)) wr) (fun _ _ _ i _ => n - (intOf i).toNat)
  case atStart => exact ⟨0, Nat.zero_le _, rfl, three_nil _ _, Below.refl _ _, by rw [gbase.out]; exact Nat.le_refl _⟩
  case round =>
    obtain ⟨k, hk, rfl, hT⟩ := hrel
    have g0 := Lib.hid hT
    clear hT
    by_cases hlt : k < n
    · have lk : decide ((k : Int) < (n : Int)) = true := by simp; omega
      have wk : IntKind.i64.wrap ((k : Int) + 1) = ((k + 1 : Nat) : Int) := by rw [IntKind.wrap_i64]; omega
      by_cases hkb : k < nb
      · obtain ⟨b, o, rfl, hf0⟩ := gbo.out k hkb
        have hf1 : wr.cell? ⟨b, o + k, none⟩ = some (.bool (f k)) := (g0.out.below.cell (show b < base by rw [gbase.out]; exact block_lt_of_cell hf0)).trans hf0
        obtain ⟨fk, hfk⟩ : ∃ fk, fk = f k := ⟨_, rfl⟩
        rw [← hfk] at hf1
        have lb : decide ((k : Int) < (nb : Int)) = true := by simp; omega
        have hs1 := Lib.hid (show fk = F k by rw [gF.out k, hfk]; simp [hkb])
        have hs2 := Lib.hid (show (!fk) = nF k by rw [gG.out k, ← hs1.out])
        clear hf0 hfk
        go_wp2_with (first
          | ((with_reducible refine at_iaddrC 61 ?_); go_loud (refine wpList_value (by rfl) _ (run_index_slice _ 61 4 (.tmp 50) (.tmp 51) rfl Tryd.underlying61 1 sz_bool b o nb c rfl .i64 k rfl hkb (o + k) (by omega)) ?_))
          | ((with_reducible refine at_bslice 61 ?_)
             refine wpList_plain rfl fun K hK => wp_ran _ (run_buildSlice _ 61 4 1 _ rfl Tryd.underlying61 (.bool false) 1 info_bool2 (by decide) (by decide) [.bool fk] rfl (by rfl) (fun v hv => by rw [List.mem_singleton.1 hv]; rfl)) (hK _ _ ?_)
             clear hK K
             obtain ⟨q0, hq0⟩ : ∃ q, q = wr.heap.size := ⟨_, rfl⟩
             rw [← hq0]
             refine gen_l (fun W' => TriW base W (threeL u11 u12 u13 k k k (bl F k) (bl nF k) (bl (fun _ => true) k)) W' ∧ W'.rangeAt q0 0 [.bool fk]) ⟨g0.out.later ((Below.refl _ _).alloc (Nat.le_refl _) _), range_whole (heap_new _ _ _ _ hq0)⟩ ?_
             clear hq0
             rintro V0 ⟨h1, h2⟩
             have p0 := Lib.hid h1
             have r0 := Lib.hid h2
             clear h1 h2)
          | ((with_reducible refine at_appC 61 ?_)
             refine wpList_plain rfl fun K hK => wp_appL (n0 := base) (w0 := W) (.tmp 55) (.tmp 57) 61 4 rfl Tryd.underlying61 (.bool false) 1 1 info_bool rfl (by decide) base (threeL u11 u12 u13 k k k (bl F k) (bl nF k) (bl (fun _ => true) k)) 0 k u11 (bl F k) rfl rfl p0.out.own (some ⟨q0, 0, none⟩) 1 1 rfl (fun h => by cases h) [.bool fk] rfl (RowV.range r0.out) (fun u hu => by rw [List.mem_singleton.1 hu]; rfl) (by omega) (by omega) p0.out.size (Nat.le_refl _) p0.out.below (fun vz cz W' h1 h2 h3 h4 h5 h6 => hK _ _ ?_)
             clear hK K
             obtain ⟨s0, hs0⟩ : ∃ v : Value, v = .slice vz (k + 1) cz := ⟨_, rfl⟩
             rw [← hs0, bl_succ F k _ hs1.out] at h2
             rw [← hs0]
             obtain ⟨W0, hW0⟩ : ∃ X : World, X = W' := ⟨_, rfl⟩
             rw [← hW0]
             have e0 := Lib.hid (show TriW base W (threeL s0 u12 u13 (k + 1) k k (bl F (k + 1)) (bl nF k) (bl (fun _ => true) k)) W0 from hW0 ▸ ⟨h2, h3, h4⟩)
             clear h1 h2 h3 h4 h5 h6 hs0 hW0)
          | ((with_reducible refine at_bslice 61 ?_)
             refine wpList_plain rfl fun K hK => wp_ran _ (run_buildSlice _ 61 4 1 _ rfl Tryd.underlying61 (.bool false) 1 info_bool2 (by decide) (by decide) [.bool (!fk)] rfl (by rfl) (fun v hv => by rw [List.mem_singleton.1 hv]; rfl)) (hK _ _ ?_)
             clear hK K
             obtain ⟨q1, hq1⟩ : ∃ q, q = W0.heap.size := ⟨_, rfl⟩
             rw [← hq1]
             refine gen_l (fun W' => TriW base W (threeL s0 u12 u13 (k + 1) k k (bl F (k + 1)) (bl nF k) (bl (fun _ => true) k)) W' ∧ W'.rangeAt q1 0 [.bool (!fk)]) ⟨e0.out.later ((Below.refl _ _).alloc (Nat.le_refl _) _), range_whole (heap_new _ _ _ _ hq1)⟩ ?_
             clear hq1
             rintro V1 ⟨h1, h2⟩
             have p1 := Lib.hid h1
             have r1 := Lib.hid h2
             clear h1 h2)
          | ((with_reducible refine at_appC 61 ?_)
             refine wpList_plain rfl fun K hK => wp_appL (n0 := base) (w0 := W) (.tmp 59) (.tmp 62) 61 4 rfl Tryd.underlying61 (.bool false) 1 1 info_bool rfl (by decide) base (threeL s0 u12 u13 (k + 1) k k (bl F (k + 1)) (bl nF k) (bl (fun _ => true) k)) 1 k u12 (bl nF k) rfl rfl p1.out.own (some ⟨q1, 0, none⟩) 1 1 rfl (fun h => by cases h) [.bool (!fk)] rfl (RowV.range r1.out) (fun u hu => by rw [List.mem_singleton.1 hu]; rfl) (by omega) (by omega) p1.out.size (Nat.le_refl _) p1.out.below (fun vz cz W' h1 h2 h3 h4 h5 h6 => hK _ _ ?_)
             clear hK K
             obtain ⟨s1, hs1⟩ : ∃ v : Value, v = .slice vz (k + 1) cz := ⟨_, rfl⟩
             rw [← hs1, bl_succ nF k _ hs2.out] at h2
             rw [← hs1]
             obtain ⟨W1, hW1⟩ : ∃ X : World, X = W' := ⟨_, rfl⟩
             rw [← hW1]
             have e1 := Lib.hid (show TriW base W (threeL s0 s1 u13 (k + 1) (k + 1) k (bl F (k + 1)) (bl nF (k + 1)) (bl (fun _ => true) k)) W1 from hW1 ▸ ⟨h2, h3, h4⟩)
             clear h1 h2 h3 h4 h5 h6 hs1 hW1)
          | ((with_reducible refine at_bslice 61 ?_)
             refine wpList_plain rfl fun K hK => wp_ran _ (run_buildSlice _ 61 4 1 _ rfl Tryd.underlying61 (.bool false) 1 info_bool2 (by decide) (by decide) [.bool true] rfl (by rfl) (fun v hv => by rw [List.mem_singleton.1 hv]; rfl)) (hK _ _ ?_)
             clear hK K
             obtain ⟨q2, hq2⟩ : ∃ q, q = W1.heap.size := ⟨_, rfl⟩
             rw [← hq2]
             refine gen_l (fun W' => TriW base W (threeL s0 s1 u13 (k + 1) (k + 1) k (bl F (k + 1)) (bl nF (k + 1)) (bl (fun _ => true) k)) W' ∧ W'.rangeAt q2 0 [.bool true]) ⟨e1.out.later ((Below.refl _ _).alloc (Nat.le_refl _) _), range_whole (heap_new _ _ _ _ hq2)⟩ ?_
             clear hq2
             rintro V2 ⟨h1, h2⟩
             have p2 := Lib.hid h1
             have r2 := Lib.hid h2
             clear h1 h2)
          | ((with_reducible refine at_appC 61 ?_)
             refine wpList_plain rfl fun K hK => wp_appL (n0 := base) (w0 := W) (.tmp 64) (.tmp 65) 61 4 rfl Tryd.underlying61 (.bool false) 1 1 info_bool rfl (by decide) base (threeL s0 s1 u13 (k + 1) (k + 1) k (bl F (k + 1)) (bl nF (k + 1)) (bl (fun _ => true) k)) 2 k u13 (bl (fun _ => true) k) rfl rfl p2.out.own (some ⟨q2, 0, none⟩) 1 1 rfl (fun h => by cases h) [.bool true] rfl (RowV.range r2.out) (fun u hu => by rw [List.mem_singleton.1 hu]; rfl) (by omega) (by omega) p2.out.size (Nat.le_refl _) p2.out.below (fun vz cz W' h1 h2 h3 h4 h5 h6 => hK _ _ ?_)
             clear hK K
             obtain ⟨s2, hs2⟩ : ∃ v : Value, v = .slice vz (k + 1) cz := ⟨_, rfl⟩
             rw [← hs2, bl_succ (fun _ => true) k _ rfl] at h2
             rw [← hs2]
             obtain ⟨W2, hW2⟩ : ∃ X : World, X = W' := ⟨_, rfl⟩
             rw [← hW2]
             have e2 := Lib.hid (show TriW base W (threeL s0 s1 s2 (k + 1) (k + 1) (k + 1) (bl F (k + 1)) (bl nF (k + 1)) (bl (fun _ => true) (k + 1))) W2 from hW2 ▸ ⟨h2, h3, h4⟩)
             clear h1 h2 h3 h4 h5 h6 hs2 hW2)
          )
        exact ⟨⟨k + 1, by omega, rfl, e2.out⟩, by simp [intOf]; omega⟩
      · have lb : decide ((k : Int) < (nb : Int)) = false := by simp; omega
        have hs1 := Lib.hid (show false = F k by rw [gF.out k]; simp [hkb])
        have hs2 := Lib.hid (show true = nF k by rw [gG.out k, ← hs1.out]; rfl)
        go_wp2_with (first
          | ((with_reducible refine at_bslice 61 ?_)
             refine wpList_plain rfl fun K hK => wp_ran _ (run_buildSlice _ 61 4 1 _ rfl Tryd.underlying61 (.bool false) 1 info_bool2 (by decide) (by decide) [.bool false] rfl (by rfl) (fun v hv => by rw [List.mem_singleton.1 hv]; rfl)) (hK _ _ ?_)
             clear hK K
             obtain ⟨q0, hq0⟩ : ∃ q, q = wr.heap.size := ⟨_, rfl⟩
             rw [← hq0]
             refine gen_l (fun W' => TriW base W (threeL u11 u12 u13 k k k (bl F k) (bl nF k) (bl (fun _ => true) k)) W' ∧ W'.rangeAt q0 0 [.bool false]) ⟨g0.out.later ((Below.refl _ _).alloc (Nat.le_refl _) _), range_whole (heap_new _ _ _ _ hq0)⟩ ?_
             clear hq0
             rintro V0 ⟨h1, h2⟩
             have p0 := Lib.hid h1
             have r0 := Lib.hid h2
             clear h1 h2)
          | ((with_reducible refine at_appC 61 ?_)
             refine wpList_plain rfl fun K hK => wp_appL (n0 := base) (w0 := W) (.tmp 55) (.tmp 57) 61 4 rfl Tryd.underlying61 (.bool false) 1 1 info_bool rfl (by decide) base (threeL u11 u12 u13 k k k (bl F k) (bl nF k) (bl (fun _ => true) k)) 0 k u11 (bl F k) rfl rfl p0.out.own (some ⟨q0, 0, none⟩) 1 1 rfl (fun h => by cases h) [.bool false] rfl (RowV.range r0.out) (fun u hu => by rw [List.mem_singleton.1 hu]; rfl) (by omega) (by omega) p0.out.size (Nat.le_refl _) p0.out.below (fun vz cz W' h1 h2 h3 h4 h5 h6 => hK _ _ ?_)
             clear hK K
             obtain ⟨s0, hs0⟩ : ∃ v : Value, v = .slice vz (k + 1) cz := ⟨_, rfl⟩
             rw [← hs0, bl_succ F k _ hs1.out] at h2
             rw [← hs0]
             obtain ⟨W0, hW0⟩ : ∃ X : World, X = W' := ⟨_, rfl⟩
             rw [← hW0]
             have e0 := Lib.hid (show TriW base W (threeL s0 u12 u13 (k + 1) k k (bl F (k + 1)) (bl nF k) (bl (fun _ => true) k)) W0 from hW0 ▸ ⟨h2, h3, h4⟩)
             clear h1 h2 h3 h4 h5 h6 hs0 hW0)
          | ((with_reducible refine at_bslice 61 ?_)
             refine wpList_plain rfl fun K hK => wp_ran _ (run_buildSlice _ 61 4 1 _ rfl Tryd.underlying61 (.bool false) 1 info_bool2 (by decide) (by decide) [.bool true] rfl (by rfl) (fun v hv => by rw [List.mem_singleton.1 hv]; rfl)) (hK _ _ ?_)
             clear hK K
             obtain ⟨q1, hq1⟩ : ∃ q, q = W0.heap.size := ⟨_, rfl⟩
             rw [← hq1]
             refine gen_l (fun W' => TriW base W (threeL s0 u12 u13 (k + 1) k k (bl F (k + 1)) (bl nF k) (bl (fun _ => true) k)) W' ∧ W'.rangeAt q1 0 [.bool true]) ⟨e0.out.later ((Below.refl _ _).alloc (Nat.le_refl _) _), range_whole (heap_new _ _ _ _ hq1)⟩ ?_
             clear hq1
             rintro V1 ⟨h1, h2⟩
             have p1 := Lib.hid h1
             have r1 := Lib.hid h2
             clear h1 h2)
          | ((with_reducible refine at_appC 61 ?_)
             refine wpList_plain rfl fun K hK => wp_appL (n0 := base) (w0 := W) (.tmp 59) (.tmp 62) 61 4 rfl Tryd.underlying61 (.bool false) 1 1 info_bool rfl (by decide) base (threeL s0 u12 u13 (k + 1) k k (bl F (k + 1)) (bl nF k) (bl (fun _ => true) k)) 1 k u12 (bl nF k) rfl rfl p1.out.own (some ⟨q1, 0, none⟩) 1 1 rfl (fun h => by cases h) [.bool true] rfl (RowV.range r1.out) (fun u hu => by rw [List.mem_singleton.1 hu]; rfl) (by omega) (by omega) p1.out.size (Nat.le_refl _) p1.out.below (fun vz cz W' h1 h2 h3 h4 h5 h6 => hK _ _ ?_)
             clear hK K
             obtain ⟨s1, hs1⟩ : ∃ v : Value, v = .slice vz (k + 1) cz := ⟨_, rfl⟩
             rw [← hs1, bl_succ nF k _ hs2.out] at h2
             rw [← hs1]
             obtain ⟨W1, hW1⟩ : ∃ X : World, X = W' := ⟨_, rfl⟩
             rw [← hW1]
             have e1 := Lib.hid (show TriW base W (threeL s0 s1 u13 (k + 1) (k + 1) k (bl F (k + 1)) (bl nF (k + 1)) (bl (fun _ => true) k)) W1 from hW1 ▸ ⟨h2, h3, h4⟩)
             clear h1 h2 h3 h4 h5 h6 hs1 hW1)
          | ((with_reducible refine at_bslice 61 ?_)
             refine wpList_plain rfl fun K hK => wp_ran _ (run_buildSlice _ 61 4 1 _ rfl Tryd.underlying61 (.bool false) 1 info_bool2 (by decide) (by decide) [.bool true] rfl (by rfl) (fun v hv => by rw [List.mem_singleton.1 hv]; rfl)) (hK _ _ ?_)
             clear hK K
             obtain ⟨q2, hq2⟩ : ∃ q, q = W1.heap.size := ⟨_, rfl⟩
             rw [← hq2]
             refine gen_l (fun W' => TriW base W (threeL s0 s1 u13 (k + 1) (k + 1) k (bl F (k + 1)) (bl nF (k + 1)) (bl (fun _ => true) k)) W' ∧ W'.rangeAt q2 0 [.bool true]) ⟨e1.out.later ((Below.refl _ _).alloc (Nat.le_refl _) _), range_whole (heap_new _ _ _ _ hq2)⟩ ?_
             clear hq2
             rintro V2 ⟨h1, h2⟩
             have p2 := Lib.hid h1
             have r2 := Lib.hid h2
             clear h1 h2)
          | ((with_reducible refine at_appC 61 ?_)
             refine wpList_plain rfl fun K hK => wp_appL (n0 := base) (w0 := W) (.tmp 64) (.tmp 65) 61 4 rfl Tryd.underlying61 (.bool false) 1 1 info_bool rfl (by decide) base (threeL s0 s1 u13 (k + 1) (k + 1) k (bl F (k + 1)) (bl nF (k + 1)) (bl (fun _ => true) k)) 2 k u13 (bl (fun _ => true) k) rfl rfl p2.out.own (some ⟨q2, 0, none⟩) 1 1 rfl (fun h => by cases h) [.bool true] rfl (RowV.range r2.out) (fun u hu => by rw [List.mem_singleton.1 hu]; rfl) (by omega) (by omega) p2.out.size (Nat.le_refl _) p2.out.below (fun vz cz W' h1 h2 h3 h4 h5 h6 => hK _ _ ?_)
             clear hK K
             obtain ⟨s2, hs2⟩ : ∃ v : Value, v = .slice vz (k + 1) cz := ⟨_, rfl⟩
             rw [← hs2, bl_succ (fun _ => true) k _ rfl] at h2
             rw [← hs2]
             obtain ⟨W2, hW2⟩ : ∃ X : World, X = W' := ⟨_, rfl⟩
             rw [← hW2]
             have e2 := Lib.hid (show TriW base W (threeL s0 s1 s2 (k + 1) (k + 1) (k + 1) (bl F (k + 1)) (bl nF (k + 1)) (bl (fun _ => true) (k + 1))) W2 from hW2 ▸ ⟨h2, h3, h4⟩)
             clear h1 h2 h3 h4 h5 h6 hs2 hW2)
          )
        exact ⟨⟨k + 1, by omega, rfl, e2.out⟩, by simp [intOf]; omega⟩
    · have e2 : k = n := by omega
      have lk : decide ((k : Int) < (n : Int)) = false := by simp; omega
      subst e2
      go_wp2
      exact gQ.out _ _ _ _ _ (by kernel_rfl) (gbase.out ▸ g0.out)
end Go.Proofs.YtfnjcpopadpmbaaDoor
