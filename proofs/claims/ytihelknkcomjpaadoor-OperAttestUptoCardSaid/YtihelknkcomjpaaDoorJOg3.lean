/- Several slices of the call's own, apart from each other: what an append to one of them, or a store into one, leaves of the others. -/
/- wire.Out of the program, whole: its head, its rest, its holes, where each part of the rest begins, its error. -/
/- wire.Out of the program: U64, Later. -/
/- wire.Out of the program: Done, with offsets put into the holes. -/
import Derived.Test.YtihelknkcomjpaaDoorJPadded
import Derived.Test.YtihelknkcomjpaaDoorJTree
import Derived.Test.YtihelknkcomjpaaDoorJIn2
import Derived.Test.YtihelknkcomjpaaDoorJRqS
set_option linter.unusedVariables false
set_option linter.unusedSimpArgs false
set_option linter.unnecessarySimpa false
namespace Go.Proofs.YtihelknkcomjpaaDoor
open Go.RowKit BigFrame
set_option maxRecDepth 100000
/-- One slice of the call's own. -/
structure Ow where
  e : TypeId
  sz : Nat
  v : Value
  n : Nat
  cs : List Value
structure OwL (base : Nat) (xs : List Ow) (w : World) : Prop where
  own : ∀ (i : Nat) (x : Ow), xs[i]? = some x → w.ownsRow base x.e x.sz x.v x.n x.cs
  dis : ∀ (i j : Nat) (x y : Ow), i ≠ j → xs[i]? = some x → xs[j]? = some y → ∀ k, x.v.ownBlock = some k → y.v.ownBlock ≠ some k
theorem OwL.later {base : Nat} {xs : List Ow} {w w' : World} (h : OwL base xs w) (hb : Below w.heap.size w w') : OwL base xs w' :=
  ⟨fun i x hx => own_later (h.own i x hx) hb, h.dis⟩
theorem OwL.apart {base b : Nat} {xs : List Ow} {w w' : World} (h : OwL base xs w) (hx : Apart b w w') (hb : b < base) : OwL base xs w' :=
  ⟨fun i x hi => own_apart (h.own i x hi) hx hb, h.dis⟩
theorem OwL.weak {base base' : Nat} {xs : List Ow} {w : World} (h : OwL base xs w) (hb : base' ≤ base) : OwL base' xs w := by
  refine ⟨fun i x hi => ?_, h.dis⟩
  have h1 := h.own i x hi
  refine ⟨h1.1, ?_⟩
  rcases h1.2 with h2 | ⟨g, cap, cur, h2, h3, h4⟩
  · exact Or.inl h2
  · exact Or.inr ⟨g, cap, cur, h2, by omega, h4⟩
theorem set_at {α : Type} (xs : List α) (i j : Nat) (a y : α) (h : (xs.set i a)[j]? = some y) : (j = i ∧ y = a) ∨ (j ≠ i ∧ xs[j]? = some y) := by
  rw [List.getElem?_set] at h
  by_cases e : i = j
  · subst e
    rw [if_pos rfl] at h
    split at h
    · exact Or.inl ⟨rfl, (Option.some.inj h).symm⟩
    · cases h
  · rw [if_neg e] at h
    exact Or.inr ⟨fun e2 => e e2.symm, h⟩
theorem OwL.set {base : Nat} {xs : List Ow} {w W : World} (h : OwL base xs w) (i : Nat) (x x' : Ow) (hi : xs[i]? = some x) (h' : W.ownsRow base x'.e x'.sz x'.v x'.n x'.cs)
    (ho : ∀ k, k < w.heap.size → some k ≠ x.v.ownBlock → W.heap[k]? = w.heap[k]?) (hf : x'.v.ownBlock = x.v.ownBlock ∨ x'.v.ownBlock = some w.heap.size) : OwL base (xs.set i x') W := by
  have far : ∀ (j : Nat) (y : Ow), j ≠ i → xs[j]? = some y → ∀ k, y.v.ownBlock = some k → x'.v.ownBlock ≠ some k := fun j y hj hy k hk e => by
    rcases hf with hf | hf
    · exact h.dis j i y x hj hy hi k hk (hf ▸ e)
    · rw [hf] at e
      cases e
      have := ((h.own j y hy).lt _ hk).2
      omega
  refine ⟨fun j y hy => ?_, fun j1 j2 y1 y2 hne h1 h2 k hk => ?_⟩
  · rcases set_at _ _ _ _ _ hy with ⟨_, rfl⟩ | ⟨hj, hy⟩
    · exact h'
    · have hown := h.own j y hy
      refine ⟨hown.1, ?_⟩
      rcases hown.2 with h2 | ⟨g, cap, cur, h2, h3, h4, h5⟩
      · exact Or.inl h2
      · refine Or.inr ⟨g, cap, cur, h2, h3, (ho g (Array.getElem?_eq_some_iff.1 h4).1 (fun e => ?_)).trans h4, h5⟩
        exact h.dis j i y x hj hy hi g (by rw [h2]; rfl) e.symm
  · rcases set_at _ _ _ _ _ h1 with ⟨e1, q1⟩ | ⟨e1, k1⟩
    · rcases set_at _ _ _ _ _ h2 with ⟨e2, _⟩ | ⟨e2, k2⟩
      · exact absurd (e1.trans e2.symm) hne
      · intro e
        subst q1
        exact far j2 y2 e2 k2 k e hk
    · rcases set_at _ _ _ _ _ h2 with ⟨_, q2⟩ | ⟨e2, k2⟩
      · subst q2
        exact far j1 y1 e1 k1 k hk
      · exact h.dis j1 j2 y1 y2 hne k1 k2 k hk
/-- Where these cells lie, one behind the other. -/
def RowV (w : World) (va : Option Addr) (news : List Value) : Prop := ∀ j u, news[j]? = some u → ∃ b o, va = some ⟨b, o, none⟩ ∧ w.cell? ⟨b, o + j, none⟩ = some u
theorem RowV.of_row {w : World} {va : Option Addr} {k : CK} {m : List Int} (h : Row w va k m) : RowV w va (m.map k.mk) := fun j u hu => by
  rw [List.getElem?_map] at hu
  cases hq : m[j]? with
  | none => simp [hq] at hu
  | some x =>
    have hj : j < m.length := (List.getElem?_eq_some_iff.1 hq).1
    obtain ⟨b, o, e, hc⟩ := h.cell j hj
    refine ⟨b, o, e, ?_⟩
    rw [hc]
    simp [hq, List.getD] at hu ⊢
    exact hu
theorem RowV.block {w : World} {b : Nat} {t : TypeId} {fr : Nat × Nat} {cs : Array Value} (h : w.heap[b]? = some (.cells cs t fr)) : RowV w (some ⟨b, 0, none⟩) cs.toList := fun j u hu => by
  refine ⟨b, 0, rfl, ?_⟩
  rw [cell_of_row w b (0 + j) _ _ _ h, Nat.zero_add]
  simpa using hu
theorem RowV.range {w : World} {b o : Nat} {cs : List Value} (h : w.rangeAt b o cs) : RowV w (some ⟨b, o, none⟩) cs := fun j u hu => ⟨b, o, rfl, h j u hu⟩
theorem own_rowV {base sz n c : Nat} {e : TypeId} {va : Option Addr} {cs : List Value} {w : World} (h : w.ownsRow base e sz (.slice va n c) n cs) : RowV w va cs := fun j u hu => by
  rcases h.2 with ⟨_, h2⟩ | ⟨g, cap, cur, h2, _⟩
  · have h3 := h.1
    rw [h2, Nat.zero_mul] at h3
    rw [List.eq_nil_of_length_eq_zero h3] at hu
    cases hu
  · cases h2
    refine ⟨g, 0, rfl, ?_⟩
    rw [Nat.zero_add, h.cellAt j (by rw [← h.1]; exact (List.getElem?_eq_some_iff.1 hu).1)]
    exact hu
theorem own_nil {base sz n c : Nat} {e : TypeId} {va : Option Addr} {cs : List Value} {w : World} (h : w.ownsRow base e sz (.slice va n c) n cs) : va = none → c = 0 ∧ n = 0 := fun e1 => by
  rcases h.2 with ⟨h2, h3⟩ | ⟨g, cap, cur, h2, _⟩
  · cases h2; exact ⟨rfl, h3⟩
  · cases h2; cases e1
/-- append onto one of several slices of the call's own. -/
theorem wp_appL {P : Program} {o : Oper} {a : Act} {w w0 : World} {K : Act → World → Prop} {Q : Exit → Act → World → Prop} {n0 : Nat} (s x : Operand) (t e : TypeId)
    (ho : o.op = .call { callee := .builtin .append, args := #[s, x], argTypes := #[t, t] }) (hu : P.underlying t = some (.slice e)) (z : Value) (size bytes : Nat)
    (hi : (P.info? e).map (fun i => (i.zero, i.size, i.bytes)) = some (some z, size, bytes)) (hzs : z.cells.size = size) (hsz : 0 < size)
    (base : Nat) (xs : List Ow) (i n : Nat) (v : Value) (cs : List Value) (hX : xs[i]? = some ⟨e, size, v, n, cs⟩) (hs : a.eval s = v) (H : OwL base xs w) (va : Option Addr) (m c : Nat) (hx : a.eval x = .slice va m c) (hva : va = none → c = 0 ∧ m = 0) (news : List Value) (hl : news.length = m * size)
    (hnews : RowV w va news) (h1 : ∀ u ∈ news, u.oneCell' = true) (hlen : n + m ≤ 70368744177664) (hbytes : (n + m) * bytes ≤ 140737488355328) (hbase : base ≤ w.heap.size) (hn0 : n0 ≤ base) (hb : Below n0 w0 w)
    (h : ∀ va' c' W, (va' = none → c' = 0) → OwL base (xs.set i ⟨e, size, .slice va' (n + m) c', n + m, cs ++ news⟩) W → Below n0 w0 W → base ≤ W.heap.size → (∀ k, k < w.heap.size → some k ≠ v.ownBlock → W.heap[k]? = w.heap[k]?) → w.heap.size ≤ W.heap.size → K (a.put o.dst (.slice va' (n + m) c')) W) : o.wp P a w K Q := by
  obtain ⟨i0, hi1, hz, hs1, hb1⟩ := info_parts hi
  have hown := H.own i _ hX
  simp only at hown
  cases va with
  | none =>
    obtain ⟨rfl, rfl⟩ := hva rfl
    have hn0' : news = [] := List.eq_nil_of_length_eq_zero (by simpa using hl)
    subst hn0'
    obtain ⟨va', c', e1, hv1⟩ := own_form hown
    have hrun := run_append_owned_none (P := P) (w := w) base t o.type e i0 size hu hi1 v n _ hown
    unfold Oper.wp execOp
    simp only [ho, resolve, invoke, builtin, Sem.run_bind, Sem.run_pure, Result.andThen_ok, List.map_toArray, List.map_cons, List.map_nil, hs, hx, hrun]
    have hset : xs.set i ⟨e, size, v, n, cs⟩ = xs := by
      apply List.ext_getElem?
      intro j
      rw [List.getElem?_set]
      by_cases ej : i = j
      · subst ej
        rw [if_pos rfl, if_pos (List.getElem?_eq_some_iff.1 hX).1, hX]
      · rw [if_neg ej]
    subst e1
    exact h va' c' w hv1 (by simp only [Nat.add_zero, List.append_nil]; rw [hset]; exact H) hb hbase (fun _ _ _ => rfl) (Nat.le_refl _)
  | some ad =>
    obtain ⟨v', W, hr, g1, g2, _, g4⟩ := run_append_own_at (P := P) w base t o.type e i0 z size bytes hu hi1 hz hs1 hb1 hzs hsz v n cs hown ad m c news hl (fun j u hu => by
      obtain ⟨b, o, e, hc⟩ := hnews j u hu
      cases e
      rw [Addr.add_lit]
      exact hc) h1 (by unfold maxLen; omega) hbytes hbase
    obtain ⟨va', c', e1, hv1⟩ := own_form g1
    subst e1
    unfold Oper.wp execOp
    simp only [ho, resolve, invoke, builtin, Sem.run_bind, Sem.run_pure, Result.andThen_ok, List.map_toArray, List.map_cons, List.map_nil, hs, hx, hr]
    exact h va' c' W hv1 (H.set i _ _ hX g1 (fun k h1 h2 => g2.block k h1 h2) g4) (hb.grown g2 (Nat.le_trans hn0 hbase) (fun k hk => Nat.le_trans hn0 (own_ge hown k hk))) (Nat.le_trans hbase g2.size) (fun k h1 h2 => g2.block k h1 h2) g2.size
theorem wpList_appL {P : Program} {ops : Array Oper} {rest : List Oper} {o : Oper} {a : Act} {w w0 : World} {Q : Exit → Act → World → Prop} {n0 : Nat} (hg : o.guard = none) (s x : Operand) (t e : TypeId)
    (ho : o.op = .call { callee := .builtin .append, args := #[s, x], argTypes := #[t, t] }) (hu : P.underlying t = some (.slice e)) (z : Value) (size bytes : Nat)
    (hi : (P.info? e).map (fun i => (i.zero, i.size, i.bytes)) = some (some z, size, bytes)) (hzs : z.cells.size = size) (hsz : 0 < size)
    (base : Nat) (xs : List Ow) (i n : Nat) (v : Value) (cs : List Value) (hX : xs[i]? = some ⟨e, size, v, n, cs⟩) (hs : a.eval s = v) (H : OwL base xs w) (va : Option Addr) (m c : Nat) (hx : a.eval x = .slice va m c) (hva : va = none → c = 0 ∧ m = 0) (news : List Value) (hl : news.length = m * size)
    (hnews : RowV w va news) (h1 : ∀ u ∈ news, u.oneCell' = true) (hlen : n + m ≤ 70368744177664) (hbytes : (n + m) * bytes ≤ 140737488355328) (hbase : base ≤ w.heap.size) (hn0 : n0 ≤ base) (hb : Below n0 w0 w)
    (h : ∀ va' c' W, (va' = none → c' = 0) → OwL base (xs.set i ⟨e, size, .slice va' (n + m) c', n + m, cs ++ news⟩) W → Below n0 w0 W → base ≤ W.heap.size → (∀ k, k < w.heap.size → some k ≠ v.ownBlock → W.heap[k]? = w.heap[k]?) → w.heap.size ≤ W.heap.size → wpList P ops Q rest (a.put o.dst (.slice va' (n + m) c')) W) : wpList P ops Q (o :: rest) a w :=
  wpList_plain hg fun _ hK => wp_appL s x t e ho hu z size bytes hi hzs hsz base xs i n v cs hX hs H va m c hx hva news hl hnews h1 hlen hbytes hbase hn0 hb fun va' c' W h1 h2 h3 h4 h5 h6 => hK _ _ (h va' c' W h1 h2 h3 h4 h5 h6)
/-- A store of one cell into one of several slices of the call's own. -/
theorem wp_storeL {P : Program} {o : Oper} {a : Act} {w : World} {K : Act → World → Prop} {Q : Exit → Act → World → Prop} (ty : TypeId) (x y : Operand) (ho : o.op = .store ty x y) (base : Nat) (xs : List Ow) (i n g cap k : Nat) (e : TypeId) (size : Nat) (cs : List Value) (hX : xs[i]? = some ⟨e, size, .slice (some ⟨g, 0, none⟩) n cap, n, cs⟩) (H : OwL base xs w)
    (hx : a.eval x = .pointer (some ⟨g, k, none⟩)) (u : Value) (hy : a.eval y = u) (hu1 : simpleV u = true) (hz : (P.info? ty).map (·.size) = some 1) (hk : k < cs.length)
    (h : ∀ W, OwL base (xs.set i ⟨e, size, .slice (some ⟨g, 0, none⟩) n cap, n, cs.set k u⟩) W → Apart g w W → K (a.put o.dst undef) W) : o.wp P a w K Q := by
  have hown := H.own i _ hX
  simp only at hown
  have hst := hown.stored k u
  rcases hown.2 with ⟨h', _⟩ | ⟨g', cap', cur, h', hb, hg, hnc, hcm, hcs, htake⟩
  · cases h'
  · cases h'
    have hkc : k < cur.size := by
      have : cs.length ≤ cur.size := by rw [← htake, List.length_take, Array.length_toList]; exact Nat.min_le_right _ _
      omega
    refine wp_store1 ty x y ho g k hx u hy hu1 hz cur e hg hkc fun W hC hA => h W ?_ hA
    have hW : W.ownsRow base e size (.slice (some ⟨g, 0, none⟩) n cap) n (cs.set k u) := by
      refine ⟨by simpa using hown.1, Or.inr ⟨g, cap, _, rfl, hb, hC, hnc, hcm, by simpa using hcs, ?_⟩⟩
      rw [Array.toList_setIfInBounds, ← htake, List.take_set]
    exact H.set i _ ⟨e, size, .slice (some ⟨g, 0, none⟩) n cap, n, cs.set k u⟩ hX hW (fun j h1 h2 => hA.block j h1 (fun e => h2 (by rw [e]; rfl))) (Or.inl rfl)
end Go.Proofs.YtihelknkcomjpaaDoor
namespace Go.Proofs.YtihelknkcomjpaaDoor
open Go.RowKit BigFrame
set_option maxRecDepth 100000
def owB (v : Value) (l : List Int) : Ow := ⟨5, 1, v, l.length, l.map (Value.int .u8)⟩
def owI (v : Value) (l : List Nat) : Ow := ⟨3, 1, v, l.length, l.map fun n : Nat => Value.int .i64 (n : Int)⟩
def outV (v r h e : Value) (er : Int) : Array Value := #[v, r, h, e, .int .i64 er]
def outX (v r h e : Value) (hd rs : List Int) (hs es : List Nat) (xs : List Ow) : List Ow := owB v hd :: owB r rs :: owI h hs :: owI e es :: xs
/-- The Out in block b: with these slices. -/
structure OutV (b : Nat) (v r h e : Value) (hd rs : List Int) (hs es : List Nat) (er : Int) (xs : List Ow) (w : World) : Prop where
  cells : w.heap[b]? = some (.cells (outV v r h e er) 84 (0, 0))
  own : OwL (b + 1) (outX v r h e hd rs hs es xs) w
def OutG (b : Nat) (hd rs : List Int) (hs es : List Nat) (er : Int) (w : World) : Prop := ∃ v r h e, OutV b v r h e hd rs hs es er [] w
section
variable {b : Nat} {v r h e : Value} {hd rs : List Int} {hs es : List Nat} {er : Int} {xs : List Ow} {w w' : World}
theorem OutV.size (H : OutV b v r h e hd rs hs es er xs w) : b + 1 ≤ w.heap.size := block_lt H.cells
theorem OutV.cell (H : OutV b v r h e hd rs hs es er xs w) (j : Nat) : w.cell? ⟨b, j, none⟩ = (outV v r h e er)[j]? := by
  rw [cell_of_row w b j _ _ _ H.cells]
theorem OutV.later (H : OutV b v r h e hd rs hs es er xs w) (hb : Below w.heap.size w w') : OutV b v r h e hd rs hs es er xs w' :=
  ⟨(hb.block b (block_lt H.cells)).trans H.cells, H.own.later hb⟩
theorem OutV.drew (H : OutV b v r h e hd rs hs es er xs w) (k : Nat) : OutV b v r h e hd rs hs es er xs { w with drawn := k } := H.later ⟨rfl, rfl, rfl, Nat.le_refl _, fun _ _ => rfl⟩
theorem OutV.alloc (H : OutV b v r h e hd rs hs es er xs w) (o : Obj) : OutV b v r h e hd rs hs es er xs (w.alloc o) := H.later ((Below.refl _ _).alloc (Nat.le_refl _) _)
theorem OutG.later (H : OutG b hd rs hs es er w) (hb : Below w.heap.size w w') : OutG b hd rs hs es er w' := by
  obtain ⟨v, r, h, e, H⟩ := H
  exact ⟨v, r, h, e, H.later hb⟩
theorem OutG.size (H : OutG b hd rs hs es er w) : b + 1 ≤ w.heap.size := by
  obtain ⟨v, r, h, e, H⟩ := H
  exact H.size
/-- A slice as it stands behind an append: its cell is still to be stored. -/
theorem OutV.form (H : OutV b v r h e hd rs hs es er xs w) : (∃ va c, v = .slice va hd.length c) ∧ (∃ va c, r = .slice va rs.length c) ∧ (∃ va c, h = .slice va hs.length c) ∧ ∃ va c, e = .slice va es.length c := by
  refine ⟨?_, ?_, ?_, ?_⟩
  · obtain ⟨va, c, h1, _⟩ := own_form (H.own.own 0 _ rfl); exact ⟨va, c, h1⟩
  · obtain ⟨va, c, h1, _⟩ := own_form (H.own.own 1 _ rfl); exact ⟨va, c, h1⟩
  · obtain ⟨va, c, h1, _⟩ := own_form (H.own.own 2 _ rfl); exact ⟨va, c, h1⟩
  · obtain ⟨va, c, h1, _⟩ := own_form (H.own.own 3 _ rfl); exact ⟨va, c, h1⟩
end
theorem sz_is : (Tryd.prog.info? 82).map (·.size) = some 1 := by kernel_rfl
theorem info_i64b : (Tryd.prog.info? 3).map (fun i => (i.zero, i.size, i.bytes)) = some (some (.int .i64 0), 1, 8) := by kernel_rfl
theorem info_i64c : (Tryd.prog.info? 3).map (fun i => (i.zero, i.size)) = some (some (.int .i64 0), 1) := by kernel_rfl
theorem info_u8x : (Tryd.prog.info? 5).map (fun i => (i.zero, i.size, i.bytes)) = some (some (.int .u8 0), 1, 1) := by kernel_rfl
theorem info_u8y : (Tryd.prog.info? 5).map (fun i => (i.zero, i.size)) = some (some (.int .u8 0), 1) := by kernel_rfl
theorem zero_outV : (Tryd.prog.info? 84).map (fun i => (i.zero, i.size)) = some (some (.agg (outV (.slice none 0 0) (.slice none 0 0) (.slice none 0 0) (.slice none 0 0) 0)), 5) := by kernel_rfl
theorem OutG.new (w : World) (b : Nat) (hb : w.heap.size = b) : OutG b [] [] [] [] 0 (w.alloc (.cells (outV (.slice none 0 0) (.slice none 0 0) (.slice none 0 0) (.slice none 0 0) 0) 84)) := by
  refine ⟨.slice none 0 0, .slice none 0 0, .slice none 0 0, .slice none 0 0, heap_new _ _ _ _ hb.symm, fun i x hx => ?_, fun i j x y _ hx hy k hk => ?_⟩
  · have hn : x.v = .slice none 0 0 ∧ x.n = 0 ∧ x.cs = [] := by
      match i, hx with
      | 0, hx => cases hx; exact ⟨rfl, rfl, rfl⟩
      | 1, hx => cases hx; exact ⟨rfl, rfl, rfl⟩
      | 2, hx => cases hx; exact ⟨rfl, rfl, rfl⟩
      | 3, hx => cases hx; exact ⟨rfl, rfl, rfl⟩
    exact ⟨by rw [hn.2.2, hn.2.1]; simp, Or.inl ⟨hn.1, hn.2.1⟩⟩
  · have hn : x.v = .slice none 0 0 := by
      match i, hx with
      | 0, hx => cases hx; rfl
      | 1, hx => cases hx; rfl
      | 2, hx => cases hx; rfl
      | 3, hx => cases hx; rfl
    rw [hn] at hk
    cases hk
/-- A slice of one number, new. -/
theorem run_bslice_int {ρ : Operand → Value} {o : Oper} (w : World) (parts : Array (Nat × Operand)) (ho : o.op = .buildSlice 82 1 parts) (n : Int) (hp : (parts.toList.map fun p => (p.1, ρ p.2)) = [(0, .int .i64 n)]) :
    (execOp ρ o).run Tryd.prog w = .ok (.value (.slice (some ⟨w.heap.size, 0, none⟩) 1 1)) (w.alloc (.cells #[.int .i64 n] 3)) :=
  run_buildSlice w 82 3 1 parts ho Tryd.underlying82 (.int .i64 0) 1 info_i64c (by decide) (by decide) [.int .i64 n] rfl hp (fun u hu => by rw [List.mem_singleton.1 hu]; rfl)
/-- The Out behind the store of one of its slices. -/
theorem OutV.put {b : Nat} {v' r' h' e' : Value} {hd' rs' : List Int} {hs' es' : List Nat} {er' : Int} {xs : List Ow} {W W' : World} (hO : OwL (b + 1) (outX v' r' h' e' hd' rs' hs' es' xs) W) (hx : Apart b W W') (hC : W'.heap[b]? = some (.cells (outV v' r' h' e' er') 84 (0, 0))) : OutV b v' r' h' e' hd' rs' hs' es' er' xs W' :=
  ⟨hC, hO.apart hx (by omega)⟩
/-- With a bound on where the slices lie. -/
def OutN (N b : Nat) (hd rs : List Int) (hs es : List Nat) (er : Int) (w : World) : Prop := ∃ v r h e, OutV b v r h e hd rs hs es er [] w ∧ ∀ (i : Nat) (x : Ow), (outX v r h e hd rs hs es [])[i]? = some x → ∀ k, x.v.ownBlock = some k → k < N
theorem OutG.bound {b : Nat} {hd rs : List Int} {hs es : List Nat} {er : Int} {w : World} (H : OutG b hd rs hs es er w) (N : Nat) (hN : w.heap.size ≤ N) : OutN N b hd rs hs es er w := by
  obtain ⟨v, r, h, e, H⟩ := H
  exact ⟨v, r, h, e, H, fun i x hx k hk => Nat.lt_of_lt_of_le ((H.own.own i x hx).lt k hk).2 hN⟩
theorem OutN.later {N b : Nat} {hd rs : List Int} {hs es : List Nat} {er : Int} {w w' : World} (H : OutN N b hd rs hs es er w) (hb : Below w.heap.size w w') : OutN N b hd rs hs es er w' := by
  obtain ⟨v, r, h, e, H, h2⟩ := H
  exact ⟨v, r, h, e, H.later hb, h2⟩
theorem OutN.mono {N N' b : Nat} {hd rs : List Int} {hs es : List Nat} {er : Int} {w : World} (H : OutN N b hd rs hs es er w) (hN : N ≤ N') : OutN N' b hd rs hs es er w := by
  obtain ⟨v, r, h, e, H, h2⟩ := H
  exact ⟨v, r, h, e, H, fun i x hx k hk => Nat.lt_of_lt_of_le (h2 i x hx k hk) hN⟩
theorem OutN.gen {N b : Nat} {hd rs : List Int} {hs es : List Nat} {er : Int} {w : World} (H : OutN N b hd rs hs es er w) : OutG b hd rs hs es er w := by
  obtain ⟨v, r, h, e, H, _⟩ := H
  exact ⟨v, r, h, e, H⟩
/-- Behind what has left everything below N as it stood, and block b. -/
theorem OutN.below {N b : Nat} {hd rs : List Int} {hs es : List Nat} {er : Int} {w w' : World} (H : OutN N b hd rs hs es er w) (hb : Below N w w') (hN : b + 1 ≤ N) : OutN N b hd rs hs es er w' := by
  obtain ⟨v, r, h, e, H, h2⟩ := H
  refine ⟨v, r, h, e, ⟨(hb.block b (by omega)).trans H.cells, fun i x hx => ?_, H.own.dis⟩, h2⟩
  have h1 := H.own.own i x hx
  refine ⟨h1.1, ?_⟩
  rcases h1.2 with h3 | ⟨g, cap, cur, h3, h4, h5, h6⟩
  · exact Or.inl h3
  · exact Or.inr ⟨g, cap, cur, h3, h4, (hb.block g (h2 i x hx g (by rw [h3]; rfl))).trans h5, h6⟩
/-- A further slice of the call's own beside them. -/
theorem OutN.beside {N b : Nat} {hd rs : List Int} {hs es : List Nat} {er : Int} {w : World} (H : OutN N b hd rs hs es er w) (hN : b + 1 ≤ N) {s : Value} {m : List Int} (hs' : OwnB N s m w) : ∃ v r h e, OutV b v r h e hd rs hs es er [owB s m] w := by
  obtain ⟨v, r, h, e, H, h2⟩ := H
  have key : ∀ (i : Nat) (x : Ow), (outX v r h e hd rs hs es [owB s m])[i]? = some x → (i < 4 ∧ (outX v r h e hd rs hs es [])[i]? = some x) ∨ (i = 4 ∧ x = owB s m) := fun i x hx => by
    match i, hx with
    | 0, hx => exact Or.inl ⟨by decide, hx⟩
    | 1, hx => exact Or.inl ⟨by decide, hx⟩
    | 2, hx => exact Or.inl ⟨by decide, hx⟩
    | 3, hx => exact Or.inl ⟨by decide, hx⟩
    | 4, hx => exact Or.inr ⟨rfl, (Option.some.inj hx).symm⟩
  have hlt := World.ownsRow.lt hs'
  refine ⟨v, r, h, e, H.cells, fun i x hx => ?_, fun i j x y hne hx hy k hk => ?_⟩
  · rcases key i x hx with ⟨_, hx⟩ | ⟨_, rfl⟩
    · exact H.own.own i x hx
    · refine ⟨hs'.1, ?_⟩
      rcases hs'.2 with h3 | ⟨g, cap, cur, h3, h4, h5⟩
      · exact Or.inl h3
      · exact Or.inr ⟨g, cap, cur, h3, Nat.le_trans hN h4, h5⟩
  · rcases key i x hx with ⟨i4, hx⟩ | ⟨i4, rfl⟩
    · rcases key j y hy with ⟨j4, hy⟩ | ⟨j4, rfl⟩
      · exact H.own.dis i j x y hne hx hy k hk
      · intro e2
        have h3 := (hlt k e2).1
        have h4 := h2 i x hx k hk
        omega
    · rcases key j y hy with ⟨j4, hy⟩ | ⟨j4, rfl⟩
      · intro e2
        have h3 := (hlt k hk).1
        have h4 := h2 j y hy k e2
        omega
      · exact absurd (i4.trans j4.symm) hne
theorem OutV.drop {b : Nat} {v r h e : Value} {hd rs : List Int} {hs es : List Nat} {er : Int} {x : Ow} {w : World} (H : OutV b v r h e hd rs hs es er [x] w) : OutV b v r h e hd rs hs es er [] w := by
  have key : ∀ (i : Nat) (y : Ow), (outX v r h e hd rs hs es [])[i]? = some y → (outX v r h e hd rs hs es [x])[i]? = some y := fun i y hy => by
    match i, hy with
    | 0, hy => exact hy
    | 1, hy => exact hy
    | 2, hy => exact hy
    | 3, hy => exact hy
  exact ⟨H.cells, fun i y hy => H.own.own i y (key i y hy), fun i j y z hne hy hz => H.own.dis i j y z hne (key i y hy) (key j z hz)⟩
set_option maxHeartbeats 4000000 in
theorem outv_fail (b : Nat) (v r h e : Value) (hd rs : List Int) (hs es : List Nat) (er ee : Int) (xs : List Ow) (w : World) (H0 : OutV b v r h e hd rs hs es er xs w) :
    Calls Tryd.prog 61 #[.pointer (some ⟨b, 0, none⟩), .int .i64 ee] w fun e1 w' => e1 = .returned (.tuple #[]) ∧ OutV b v r h e hd rs hs es (if er = 0 then ee else er) xs w' ∧ Apart b w w' := by
  have hz := H0.size
  have H := Lib.hid H0
  clear H0
  go_enter Tryd.func61, Tryd.ntmps61
  by_cases he : er = 0
  · subst he
    go_wp2_with (first
      | ((with_reducible refine at_load 36 ?_); go_loud (refine wpList_value (by rfl) _ (run_load_cell _ 36 _ (by rfl) ⟨b, 4, none⟩ (by rfl) (.int .i64 0) (H.out.cell 4) _ Tryd.underlying36 rfl) ?_))
      | ((with_reducible refine at_store 36 ?_); go_loud (refine wpList_plain rfl fun K hK => wp_store1 36 _ _ rfl b 4 rfl (.int .i64 ee) rfl rfl sz_errno _ _ H.out.cells (by simp [outV]) (fun W2 hC2 hx2 => hK _ _ ?_)); clear hK K))
    exact ret_none rfl rfl ⟨rfl, OutV.put H.out.own hx2 hC2, hx2⟩
  · have he' : (er == 0) = false := by simp [he]
    rw [if_neg he]
    go_wp2_with (
      ((with_reducible refine at_load 36 ?_); go_loud (refine wpList_value (by rfl) _ (run_load_cell _ 36 _ (by rfl) ⟨b, 4, none⟩ (by rfl) (.int .i64 er) (H.out.cell 4) _ Tryd.underlying36 rfl) ?_)))
    exact ret_none rfl rfl ⟨rfl, H.out, Apart.refl _ _⟩
theorem outg_fail (b : Nat) (hd rs : List Int) (hs es : List Nat) (er ee : Int) (w : World) (h : OutG b hd rs hs es er w) :
    Calls Tryd.prog 61 #[.pointer (some ⟨b, 0, none⟩), .int .i64 ee] w fun e w' => e = .returned (.tuple #[]) ∧ OutG b hd rs hs es (if er = 0 then ee else er) w' ∧ Below b w w' := by
  have hz := h.size
  obtain ⟨v, r, h, e, H⟩ := h
  exact (outv_fail b v r h e hd rs hs es er ee [] w H).mono fun _ _ ⟨h1, h2, h3⟩ => ⟨h1, ⟨v, r, h, e, h2⟩, h3.below (Below.refl b w) (Nat.le_refl _) (by omega)⟩
theorem u8_mem {l : List Int} : ∀ u ∈ l.map (Value.int .u8), u.oneCell' = true := fun u hu => by
  obtain ⟨n, _, rfl⟩ := List.mem_map.1 hu
  rfl
theorem row_u8 {w : World} {va : Option Addr} {m : List Int} (h : Row w va .u8 m) : RowV w va (m.map (Value.int .u8)) := RowV.of_row (k := .u8) h
set_option maxHeartbeats 4000000 in
theorem outg_bytes (b : Nat) (hd rs m : List Int) (hs es : List Nat) (er : Int) (va : Option Addr) (c : Nat) (w : World) (h : OutG b hd rs hs es er w) (hm : Row w va .u8 m) (hva : va = none → c = 0) (hlen : hd.length + m.length ≤ 70368744177664) :
    Calls Tryd.prog 39 #[.pointer (some ⟨b, 0, none⟩), .slice va m.length c] w fun e w' => e = .returned (.tuple #[]) ∧ OutG b (hd ++ m) rs hs es er w' ∧ Below b w w' := by
  have hz := h.size
  obtain ⟨v, r, h, e, H0⟩ := h
  have H := Lib.hid H0
  have hm' := Lib.hid hm
  have hva' := Lib.hid (show va = none → c = 0 ∧ m.length = 0 from fun e => ⟨hva e, by
    subst e
    cases m with
    | nil => rfl
    | cons y ys => obtain ⟨b, o', e, _⟩ := hm.cell 0 (by simp); cases e⟩)
  clear H0 hm hva
  go_enter Tryd.func39, Tryd.ntmps39
  go_wp2_with (first
    | ((with_reducible refine at_load 34 ?_); refine wpList_value (by rfl) _ (run_load_cell _ 34 _ (by rfl) ⟨b, 0, none⟩ (by rfl) v (H.out.cell 0) _ Tryd.underlying34 rfl) ?_)
    | ((with_reducible refine at_call_builtin .append ?_); go_loud (refine wpList_appL (w0 := w) (n0 := b + 1) rfl (.tmp 8) (.tmp 9) 34 5 rfl Tryd.underlying34 (.int .u8 0) 1 1 info_u8x rfl (by decide) (b + 1) _ 0 hd.length v _ rfl rfl H.out.own va m.length c rfl hva'.out (m.map (Value.int .u8)) (by simp) (row_u8 hm'.out) u8_mem hlen (by omega) hz (Nat.le_refl _) (Below.refl _ w) ?_)
       intro va1 c1 W1 hn1 h1 b1 z1 _ _
       have h1' := Lib.hid h1
       clear h1 hn1)
    | ((with_reducible refine at_store 34 ?_); go_loud (
       refine wpList_plain rfl fun K hK => wp_store1 34 _ _ rfl b 0 rfl _ rfl rfl sz_bs _ _ ((b1.block b (by omega)).trans H.out.cells) (by simp [outV]) (fun W2 hC2 hx2 => hK _ _ ?_)); clear hK K))
  refine ret_none rfl rfl ⟨rfl, ⟨_, r, h, e, OutV.put (v' := .slice va1 (hd.length + m.length) c1) (hd' := hd ++ m) ?_ hx2 hC2⟩, hx2.below (b1.mono (by omega)) (Nat.le_refl _) (by omega)⟩
  have h2 := h1'.out
  rw [show hd.length + m.length = (hd ++ m).length by simp, ← List.map_append] at h2
  rw [show hd.length + m.length = (hd ++ m).length by simp]
  exact h2
end Go.Proofs.YtihelknkcomjpaaDoor
namespace Go.Proofs.YtihelknkcomjpaaDoor
open Go.RowKit BigFrame
set_option maxRecDepth 100000
theorem run_bslice_4 {ρ : Operand → Value} {o : Oper} (w : World) (parts : Array (Nat × Operand)) (ho : o.op = .buildSlice 34 4 parts) (hp : (parts.toList.map fun p => (p.1, ρ p.2)) = [(0, .int .u8 0), (1, .int .u8 0), (2, .int .u8 0), (3, .int .u8 0)]) :
    (execOp ρ o).run Tryd.prog w = .ok (.value (.slice (some ⟨w.heap.size, 0, none⟩) 4 4)) (w.alloc (.cells #[.int .u8 0, .int .u8 0, .int .u8 0, .int .u8 0] 5)) :=
  run_buildSlice w 34 5 4 parts ho Tryd.underlying34 (.int .u8 0) 1 info_u8y (by decide) (by decide) [.int .u8 0, .int .u8 0, .int .u8 0, .int .u8 0] rfl hp (fun u hu => by
    rcases List.mem_cons.1 hu with rfl | hu
    · rfl
    rcases List.mem_cons.1 hu with rfl | hu
    · rfl
    rcases List.mem_cons.1 hu with rfl | hu
    · rfl
    rw [List.mem_singleton.1 hu]; rfl)
theorem row_num {w : World} {b : Nat} {m : Int} {t : TypeId} (h : w.heap[b]? = some (.cells (numV m) t (0, 0))) : RowV w (some ⟨b, 0, none⟩) ((numL m).map (Value.int .u8)) := RowV.of_row (k := .u8) (row_num_at h)
theorem outX0 {v r h e v' : Value} {hd rs l : List Int} {hs es : List Nat} {n : Nat} {m : List Value} {base : Nat} {xs : List Ow} {W : World} (hn : n = l.length) (hm : l.map (Value.int .u8) = m) (H : OwL base ((outX v r h e hd rs hs es xs).set 0 ⟨5, 1, v', n, m⟩) W) : OwL base (outX v' r h e l rs hs es xs) W := by
  subst hn
  rw [← hm] at H
  exact H
set_option maxHeartbeats 4000000 in
theorem outg_u64 (b : Nat) (hd rs : List Int) (hs es : List Nat) (er : Int) (m : Int) (w : World) (h : OutG b hd rs hs es er w) (hlen : hd.length ≤ 70368744170000) :
    Calls Tryd.prog 62 #[.pointer (some ⟨b, 0, none⟩), .int .u64 m] w fun e w' => e = .returned (.tuple #[]) ∧ OutG b (hd ++ numL m) rs hs es er w' ∧ Below b w w' := by
  have hz := h.size
  obtain ⟨v, r, h, e, H0⟩ := h
  have H := Lib.hid H0
  clear H0
  have hm1 := Lib.hid (bytes_any m w)
  go_enter Tryd.func62, Tryd.ntmps62
  go_wp2_with (first
    | ((with_reducible refine hm1.out.mono ?_)
       rintro e1 W ⟨rfl, hbW⟩
       have hbW' := Lib.hid hbW
       clear hbW)
    | ((with_reducible refine at_alloc 155 ?_); go_loud (refine wpList_alloc_store rfl rfl 155 4 _ rfl rfl rfl (numV m) rfl rfl (zeroOf Tryd.prog 155) (row_zero row_b8).1 (row_zero row_b8).2 (numV_one _) ?_)))
  refine gen_world (fun W1 => OutV b v r h e hd rs hs es er [] W1 ∧ W1.heap[W.heap.size]? = some (.cells (numV m) 155 (0, 0)) ∧ Below (b + 1) w W1 ∧ b + 1 ≤ W.heap.size ∧ W1.heap.size = W.heap.size + 1) ⟨(H.out.later hbW'.out).alloc _, heap_new _ _ _ _ rfl, (hbW'.out.mono hz).alloc (Nat.le_trans hz hbW'.out.size) _, Nat.le_trans hz hbW'.out.size, by simp⟩ ?_
  rintro W1 ⟨kH, kn, kB, kz, ks⟩
  simp only [Act.put, List.setIfInBounds_toArray, List.set_cons_zero, List.set_cons_succ]
  clear hbW'
  generalize W.heap.size = n at *
  refine wp_region_held (S := fun _ => True) (by kernel_rfl) ?_
  have hS : True := trivial
  have hB1 : Below (b + 1) w { W1 with drawn := W1.drawn + 1 } := kB.drew
  refine takeL (i := 0) (v := (.pointer (some ⟨b, 0, none⟩))) rfl (by kernel_rfl) (by kernel_rfl) (by kernel_rfl) (fun _ _ _ h => h) rfl (by assumption) (fun w' hS' => by go_simp) ?_
  simp only [Act.put, List.setIfInBounds_toArray, List.set_cons_zero, List.set_cons_succ]
  refine takeL (i := 1) (v := (.pointer (some ⟨b, 0, none⟩))) rfl (by kernel_rfl) (by kernel_rfl) (by kernel_rfl) (fun _ _ _ h => h) rfl (by assumption) (fun w' hS' => by go_simp) ?_
  simp only [Act.put, List.setIfInBounds_toArray, List.set_cons_zero, List.set_cons_succ]
  refine takeL (i := 5) (v := (.slice (some ⟨n, 0, none⟩) 8 8)) rfl (by kernel_rfl) (by kernel_rfl) (by kernel_rfl) (fun _ _ _ h => h) rfl (by assumption) (fun w' hS' => by go_simp) ?_
  simp only [Act.put, List.setIfInBounds_toArray, List.set_cons_zero, List.set_cons_succ]
  refine takeL (i := 2) (v := (.pointer (some ⟨b, 0, none⟩))) rfl (by kernel_rfl) (by kernel_rfl) (by kernel_rfl) (fun _ _ _ h => h) rfl (by assumption) (fun w' hS' => by go_simp) ?_
  simp only [Act.put, List.setIfInBounds_toArray, List.set_cons_zero, List.set_cons_succ]
  refine takeL (i := 3) (v := (.pointer (some ⟨b, 0, none⟩))) rfl (by kernel_rfl) (by kernel_rfl) (by kernel_rfl) (fun _ _ _ h => h) rfl (by assumption) (fun w' hS' => by go_simp) ?_
  simp only [Act.put, List.setIfInBounds_toArray, List.set_cons_zero, List.set_cons_succ]
  refine oneL (i := 4) rfl (by kernel_rfl) rfl (wp_ran v (run_load_cell _ 34 _ (by rfl) ⟨b, 0, none⟩ (by rfl) v ((kH.drew _).cell 0) _ Tryd.underlying34 rfl) ⟨trivial, ?_⟩)
  simp only [Act.put, List.setIfInBounds_toArray, List.set_cons_zero, List.set_cons_succ]
  refine oneL (i := 6) rfl (by kernel_rfl) rfl (wp_appL (w0 := w) (n0 := b + 1) (.tmp 11) (.tmp 12) 34 5 rfl Tryd.underlying34 (.int .u8 0) 1 1 info_u8x rfl (by decide) (b + 1) _ 0 hd.length v _ rfl rfl (kH.drew _).own (some ⟨n, 0, none⟩) 8 8 rfl (fun e => by cases e) ((numL m).map (Value.int .u8)) (by simp [numL_length]) (row_num kn) u8_mem (by omega) (by omega) (by show b + 1 ≤ W1.heap.size; omega) (Nat.le_refl _) hB1 (fun va1 c1 W2 hn1 h1 b1 z1 _ _ => ⟨trivial, ?_⟩))
  simp only [Act.put, List.setIfInBounds_toArray, List.set_cons_zero, List.set_cons_succ]
  have hS : True := trivial
  refine takeL (i := 7) (v := (.pointer (some ⟨b, 0, none⟩))) rfl (by kernel_rfl) (by kernel_rfl) (by kernel_rfl) (fun _ _ _ h => h) rfl (by assumption) (fun w' hS' => by go_simp) ?_
  simp only [Act.put, List.setIfInBounds_toArray, List.set_cons_zero, List.set_cons_succ]
  refine takeL (i := 8) (v := (.pointer (some ⟨b, 0, none⟩))) rfl (by kernel_rfl) (by kernel_rfl) (by kernel_rfl) (fun _ _ _ h => h) rfl (by assumption) (fun w' hS' => by go_simp) ?_
  simp only [Act.put, List.setIfInBounds_toArray, List.set_cons_zero, List.set_cons_succ]
  refine oneL (i := 9) rfl (by kernel_rfl) rfl (wp_store1 34 _ _ rfl b 0 rfl _ rfl rfl sz_bs _ _ ((b1.block b (by omega)).trans H.out.cells) (by simp [outV]) (fun W3 hC3 hx3 => ⟨trivial, ?_⟩))
  refine wpAnyH_done (by kernel_rfl) ?_ _
  have h2 : OwL (b + 1) (outX (.slice va1 (hd.length + 8) c1) r h e (hd ++ numL m) rs hs es []) W2 := outX0 (n := hd.length + 8) (by simp [numL_length]) (by rw [List.map_append]) h1
  exact ret_none rfl rfl ⟨rfl, ⟨_, r, h, e, OutV.put h2 hx3 hC3⟩, hx3.below (b1.mono (by omega)) (Nat.le_refl _) (by omega)⟩
theorem outXh {v r h e v' : Value} {hd rs : List Int} {hs es : List Nat} {k : Nat} {base : Nat} {xs : List Ow} {W : World} (H : OwL base ((outX v r h e hd rs hs es xs).set 2 ⟨3, 1, v', hs.length + 1, (hs.map fun n : Nat => Value.int .i64 (n : Int)) ++ [.int .i64 (k : Int)]⟩) W) : OwL base (outX v r v' e hd rs (hs ++ [k]) es xs) W := by
  have e1 : owI v' (hs ++ [k]) = ⟨3, 1, v', hs.length + 1, (hs.map fun n : Nat => Value.int .i64 (n : Int)) ++ [.int .i64 (k : Int)]⟩ := by simp [owI]
  rw [← e1] at H
  exact H
theorem outXe {v r h e v' : Value} {hd rs : List Int} {hs es : List Nat} {k : Nat} {base : Nat} {xs : List Ow} {W : World} (H : OwL base ((outX v r h e hd rs hs es xs).set 3 ⟨3, 1, v', es.length + 1, (es.map fun n : Nat => Value.int .i64 (n : Int)) ++ [.int .i64 (k : Int)]⟩) W) : OwL base (outX v r h v' hd rs hs (es ++ [k]) xs) W := by
  have e1 : owI v' (es ++ [k]) = ⟨3, 1, v', es.length + 1, (es.map fun n : Nat => Value.int .i64 (n : Int)) ++ [.int .i64 (k : Int)]⟩ := by simp [owI]
  rw [← e1] at H
  exact H
theorem outX1 {v r h e v' : Value} {hd rs l : List Int} {hs es : List Nat} {n : Nat} {m : List Value} {base : Nat} {xs : List Ow} {W : World} (hn : n = l.length) (hm : l.map (Value.int .u8) = m) (H : OwL base ((outX v r h e hd rs hs es xs).set 1 ⟨5, 1, v', n, m⟩) W) : OwL base (outX v v' h e hd l hs es xs) W := by
  subst hn
  rw [← hm] at H
  exact H
set_option maxHeartbeats 8000000 in
theorem outg_later (N b : Nat) (hd rs m : List Int) (hs es : List Nat) (er ee : Int) (va : Option Addr) (c : Nat) (w : World) (h : OutN N b hd rs hs es er w) (hN : b + 1 ≤ N) (hm : OwnB N (.slice va m.length c) m w) (h1 : hd.length ≤ 70368744170000) (h2 : rs.length + m.length ≤ 70368744170000) (h3 : hs.length ≤ 1000) (h4 : es.length ≤ 1000) :
    Calls Tryd.prog 63 #[.pointer (some ⟨b, 0, none⟩), .slice va m.length c, .int .i64 ee] w fun e w' => e = .returned (.tuple #[]) ∧ OutG b (hd ++ [0, 0, 0, 0]) (rs ++ m) (hs ++ [hd.length]) (es ++ [rs.length]) (if er = 0 then ee else er) w' ∧ Below b w w' := by
  have hz := h.gen.size
  obtain ⟨v, r, h, e, H0⟩ := h.beside hN hm
  have hF := Lib.hid (outv_fail b v r h e hd rs hs es er ee _ w H0)
  generalize (if er = 0 then ee else er) = ek at *
  clear hm H0
  go_enter Tryd.func63, Tryd.ntmps63
  go_wp2_with (
    (with_reducible refine hF.out.mono ?_)
    rintro e1 WC ⟨rfl, hG, hB0⟩
    have hG' := Lib.hid hG
    have hB0' := Lib.hid (hB0.below (Below.refl b w) (Nat.le_refl _) (by omega))
    clear hG hB0 hF)
  have HC := hG'.out
  have hB0 := hB0'.out
  obtain ⟨⟨vv, cv, rfl⟩, ⟨vr, cr, rfl⟩, ⟨vh, ch, rfl⟩, ⟨ve, ce, rfl⟩⟩ := HC.form
  rename_i K hK
  clear hG' hB0'
  refine wp_region_held (S := fun w' => w'.cell? ⟨b, 0, none⟩ = some (.slice vv hd.length cv)) (by kernel_rfl) ?_
  have hS : ({ WC with drawn := WC.drawn + 1 } : World).cell? ⟨b, 0, none⟩ = some (.slice vv hd.length cv) := (HC.drew _).cell 0
  refine takeL (i := 0) (v := (.pointer (some ⟨b, 0, none⟩))) rfl (by kernel_rfl) (by kernel_rfl) (by kernel_rfl) (fun _ _ _ h => h) rfl (by assumption) (fun w' hS' => by go_simp) ?_
  simp only [Act.put, List.setIfInBounds_toArray, List.set_cons_zero, List.set_cons_succ]
  refine takeL (i := 1) (v := (.pointer (some ⟨b, 0, none⟩))) rfl (by kernel_rfl) (by kernel_rfl) (by kernel_rfl) (fun _ _ _ h => h) rfl (by assumption) (fun w' hS' => by go_simp) ?_
  simp only [Act.put, List.setIfInBounds_toArray, List.set_cons_zero, List.set_cons_succ]
  refine takeL (i := 2) (v := (.pointer (some ⟨b, 0, none⟩))) rfl (by kernel_rfl) (by kernel_rfl) (by kernel_rfl) (fun _ _ _ h => h) rfl (by assumption) (fun w' hS' => by go_simp) ?_
  simp only [Act.put, List.setIfInBounds_toArray, List.set_cons_zero, List.set_cons_succ]
  refine takeL (i := 3) (v := (.pointer (some ⟨b, 2, none⟩))) rfl (by kernel_rfl) (by kernel_rfl) (by kernel_rfl) (fun _ _ _ h => h) rfl (by assumption) (fun w' hS' => by go_simp) ?_
  simp only [Act.put, List.setIfInBounds_toArray, List.set_cons_zero, List.set_cons_succ]
  refine takeL (i := 5) (v := (.pointer (some ⟨b, 0, none⟩))) rfl (by kernel_rfl) (by kernel_rfl) (by kernel_rfl) (fun _ _ _ h => h) rfl (by assumption) (fun w' hS' => by go_simp) ?_
  simp only [Act.put, List.setIfInBounds_toArray, List.set_cons_zero, List.set_cons_succ]
  refine takeL (i := 6) (v := (.pointer (some ⟨b, 0, none⟩))) rfl (by kernel_rfl) (by kernel_rfl) (by kernel_rfl) (fun _ _ _ h => h) rfl (by assumption) (fun w' hS' => by go_simp) ?_
  simp only [Act.put, List.setIfInBounds_toArray, List.set_cons_zero, List.set_cons_succ]
  refine takeL (i := 7) (v := (.pointer (some ⟨b, 0, none⟩))) rfl (by kernel_rfl) (by kernel_rfl) (by kernel_rfl) (fun _ _ _ h => h) rfl (by assumption) (fun w' hS' => by go_simp) ?_
  simp only [Act.put, List.setIfInBounds_toArray, List.set_cons_zero, List.set_cons_succ]
  refine takeL (i := 8) (v := (.slice vv hd.length cv)) rfl (by kernel_rfl) (by kernel_rfl) (by kernel_rfl) (fun _ _ _ h => h) rfl (by assumption) (fun w' hS' => run_load_cell _ 34 _ (by rfl) ⟨b, 0, none⟩ (by rfl) _ hS' _ Tryd.underlying34 rfl) ?_
  simp only [Act.put, List.setIfInBounds_toArray, List.set_cons_zero, List.set_cons_succ]
  refine takeL (i := 9) (v := (.int .i64 ((hd.length : Nat) : Int))) rfl (by kernel_rfl) (by kernel_rfl) (by kernel_rfl) (fun _ _ _ h => h) rfl (by assumption) (fun w' hS' => by go_simp) ?_
  simp only [Act.put, List.setIfInBounds_toArray, List.set_cons_zero, List.set_cons_succ]
  refine pairL (i := 4) (k := 10) (.slice vh hs.length ch) (.slice (some ⟨WC.heap.size, 0, none⟩) 1 1) (Wn := ({ WC with drawn := WC.drawn + 1 } : World).alloc (.cells #[.int .i64 ((hd.length : Nat) : Int)] 3)) rfl rfl (by kernel_rfl) (by kernel_rfl) (by kernel_rfl) rfl rfl rfl rfl (run_load_cell _ 82 _ (by rfl) ⟨b, 2, none⟩ (by rfl) _ ((HC.drew _).cell 2) _ Tryd.underlying82 rfl) (run_load_cell _ 82 _ (by rfl) ⟨b, 2, none⟩ (by rfl) _ (((HC.drew _).alloc _).cell 2) _ Tryd.underlying82 rfl) (run_bslice_int _ _ (by rfl) ((hd.length : Nat) : Int) (by rfl)) (run_bslice_int _ _ (by rfl) ((hd.length : Nat) : Int) (by rfl)) hS (((HC.drew _).alloc _).cell 0) rfl rfl ?_
  simp only [Act.put, List.setIfInBounds_toArray, List.set_cons_zero, List.set_cons_succ]
  refine oneL (i := 11) rfl (by kernel_rfl) rfl (wp_appL (w0 := WC) (n0 := b + 1) (.tmp 13) (.tmp 19) 82 3 rfl Tryd.underlying82 (.int .i64 0) 1 8 info_i64b rfl (by decide) (b + 1) _ 2 hs.length (.slice vh hs.length ch) _ rfl rfl ((HC.drew _).alloc _).own (some ⟨WC.heap.size, 0, none⟩) 1 1 rfl (fun e => by cases e) [.int .i64 ((hd.length : Nat) : Int)] rfl (RowV.block (cs := #[.int .i64 ((hd.length : Nat) : Int)]) (heap_new _ _ _ _ rfl)) (fun u hu => by rw [List.mem_singleton.1 hu]; rfl) (by omega) (by omega) (by rw [World.size_alloc]; show b + 1 ≤ WC.heap.size + 1; have := HC.size; omega) (Nat.le_refl _) (((Below.refl (b + 1) WC).drew).alloc HC.size _) (fun va1 c1 W2 hn1 q1 b1 z1 o1 o2 => ⟨(b1.cell (p := ⟨b, 0, none⟩) (Nat.lt_succ_self b)).trans (HC.cell 0), ?_⟩))
  simp only [Act.put, List.setIfInBounds_toArray, List.set_cons_zero, List.set_cons_succ]
  have hS : W2.cell? ⟨b, 0, none⟩ = some (.slice vv hd.length cv) := (b1.cell (p := ⟨b, 0, none⟩) (Nat.lt_succ_self b)).trans (HC.cell 0)
  refine takeL (i := 12) (v := (.pointer (some ⟨b, 0, none⟩))) rfl (by kernel_rfl) (by kernel_rfl) (by kernel_rfl) (fun _ _ _ h => h) rfl (by assumption) (fun w' hS' => by go_simp) ?_
  simp only [Act.put, List.setIfInBounds_toArray, List.set_cons_zero, List.set_cons_succ]
  refine takeL (i := 13) (v := (.pointer (some ⟨b, 2, none⟩))) rfl (by kernel_rfl) (by kernel_rfl) (by kernel_rfl) (fun _ _ _ h => h) rfl (by assumption) (fun w' hS' => by go_simp) ?_
  simp only [Act.put, List.setIfInBounds_toArray, List.set_cons_zero, List.set_cons_succ]
  refine oneL (i := 14) rfl (by kernel_rfl) rfl (wp_store1 82 _ _ rfl b 2 rfl _ rfl rfl sz_is _ _ ((b1.block b (by omega)).trans HC.cells) (by simp [outV]) (fun W3 hC3 hx3 => ⟨(cell_of_row W3 b 0 _ _ _ hC3).trans rfl, ?_⟩))
  refine wpAnyH_done (by kernel_rfl) ?_ _
  refine hK _ _ ?_
  clear hK K
  refine gen_world (fun W => OutV b _ _ _ _ hd rs (hs ++ [hd.length]) es ek _ W ∧ Below b w W) ⟨OutV.put (outXh q1) hx3 hC3, hB0.trans (hx3.below (b1.mono (by omega)) (Nat.le_refl _) (by have := HC.size; omega))⟩ ?_
  clear hC3 hx3 q1 b1 z1 hn1 o1 o2 hS HC hB0
  rintro WD ⟨HD, hB0⟩
  clear W3 W2
  go_wp2
  rename_i K hK
  refine wp_region_held (S := fun w' => w'.cell? ⟨b, 1, none⟩ = some (.slice vr rs.length cr)) (by kernel_rfl) ?_
  have hS : ({ WD with drawn := WD.drawn + 1 } : World).cell? ⟨b, 1, none⟩ = some (.slice vr rs.length cr) := (HD.drew _).cell 1
  refine takeL (i := 0) (v := (.pointer (some ⟨b, 0, none⟩))) rfl (by kernel_rfl) (by kernel_rfl) (by kernel_rfl) (fun _ _ _ h => h) rfl (by assumption) (fun w' hS' => by go_simp) ?_
  simp only [Act.put, List.setIfInBounds_toArray, List.set_cons_zero, List.set_cons_succ]
  refine takeL (i := 1) (v := (.pointer (some ⟨b, 0, none⟩))) rfl (by kernel_rfl) (by kernel_rfl) (by kernel_rfl) (fun _ _ _ h => h) rfl (by assumption) (fun w' hS' => by go_simp) ?_
  simp only [Act.put, List.setIfInBounds_toArray, List.set_cons_zero, List.set_cons_succ]
  refine takeL (i := 2) (v := (.pointer (some ⟨b, 0, none⟩))) rfl (by kernel_rfl) (by kernel_rfl) (by kernel_rfl) (fun _ _ _ h => h) rfl (by assumption) (fun w' hS' => by go_simp) ?_
  simp only [Act.put, List.setIfInBounds_toArray, List.set_cons_zero, List.set_cons_succ]
  refine takeL (i := 3) (v := (.pointer (some ⟨b, 3, none⟩))) rfl (by kernel_rfl) (by kernel_rfl) (by kernel_rfl) (fun _ _ _ h => h) rfl (by assumption) (fun w' hS' => by go_simp) ?_
  simp only [Act.put, List.setIfInBounds_toArray, List.set_cons_zero, List.set_cons_succ]
  refine takeL (i := 5) (v := (.pointer (some ⟨b, 0, none⟩))) rfl (by kernel_rfl) (by kernel_rfl) (by kernel_rfl) (fun _ _ _ h => h) rfl (by assumption) (fun w' hS' => by go_simp) ?_
  simp only [Act.put, List.setIfInBounds_toArray, List.set_cons_zero, List.set_cons_succ]
  refine takeL (i := 6) (v := (.pointer (some ⟨b, 0, none⟩))) rfl (by kernel_rfl) (by kernel_rfl) (by kernel_rfl) (fun _ _ _ h => h) rfl (by assumption) (fun w' hS' => by go_simp) ?_
  simp only [Act.put, List.setIfInBounds_toArray, List.set_cons_zero, List.set_cons_succ]
  refine takeL (i := 7) (v := (.pointer (some ⟨b, 1, none⟩))) rfl (by kernel_rfl) (by kernel_rfl) (by kernel_rfl) (fun _ _ _ h => h) rfl (by assumption) (fun w' hS' => by go_simp) ?_
  simp only [Act.put, List.setIfInBounds_toArray, List.set_cons_zero, List.set_cons_succ]
  refine takeL (i := 8) (v := (.slice vr rs.length cr)) rfl (by kernel_rfl) (by kernel_rfl) (by kernel_rfl) (fun _ _ _ h => h) rfl (by assumption) (fun w' hS' => run_load_cell _ 34 _ (by rfl) ⟨b, 1, none⟩ (by rfl) _ hS' _ Tryd.underlying34 rfl) ?_
  simp only [Act.put, List.setIfInBounds_toArray, List.set_cons_zero, List.set_cons_succ]
  refine takeL (i := 9) (v := (.int .i64 ((rs.length : Nat) : Int))) rfl (by kernel_rfl) (by kernel_rfl) (by kernel_rfl) (fun _ _ _ h => h) rfl (by assumption) (fun w' hS' => by go_simp) ?_
  simp only [Act.put, List.setIfInBounds_toArray, List.set_cons_zero, List.set_cons_succ]
  refine pairL (i := 4) (k := 10) (.slice ve es.length ce) (.slice (some ⟨WD.heap.size, 0, none⟩) 1 1) (Wn := ({ WD with drawn := WD.drawn + 1 } : World).alloc (.cells #[.int .i64 ((rs.length : Nat) : Int)] 3)) rfl rfl (by kernel_rfl) (by kernel_rfl) (by kernel_rfl) rfl rfl rfl rfl (run_load_cell _ 82 _ (by rfl) ⟨b, 3, none⟩ (by rfl) _ ((HD.drew _).cell 3) _ Tryd.underlying82 rfl) (run_load_cell _ 82 _ (by rfl) ⟨b, 3, none⟩ (by rfl) _ (((HD.drew _).alloc _).cell 3) _ Tryd.underlying82 rfl) (run_bslice_int _ _ (by rfl) ((rs.length : Nat) : Int) (by rfl)) (run_bslice_int _ _ (by rfl) ((rs.length : Nat) : Int) (by rfl)) hS (((HD.drew _).alloc _).cell 1) rfl rfl ?_
  simp only [Act.put, List.setIfInBounds_toArray, List.set_cons_zero, List.set_cons_succ]
  refine oneL (i := 11) rfl (by kernel_rfl) rfl (wp_appL (w0 := WD) (n0 := b + 1) (.tmp 27) (.tmp 33) 82 3 rfl Tryd.underlying82 (.int .i64 0) 1 8 info_i64b rfl (by decide) (b + 1) _ 3 es.length (.slice ve es.length ce) _ rfl rfl ((HD.drew _).alloc _).own (some ⟨WD.heap.size, 0, none⟩) 1 1 rfl (fun e => by cases e) [.int .i64 ((rs.length : Nat) : Int)] rfl (RowV.block (cs := #[.int .i64 ((rs.length : Nat) : Int)]) (heap_new _ _ _ _ rfl)) (fun u hu => by rw [List.mem_singleton.1 hu]; rfl) (by omega) (by omega) (by rw [World.size_alloc]; show b + 1 ≤ WD.heap.size + 1; have := HD.size; omega) (Nat.le_refl _) (((Below.refl (b + 1) WD).drew).alloc HD.size _) (fun va1 c1 W2 hn1 q1 b1 z1 o1 o2 => ⟨(b1.cell (p := ⟨b, 1, none⟩) (Nat.lt_succ_self b)).trans (HD.cell 1), ?_⟩))
  simp only [Act.put, List.setIfInBounds_toArray, List.set_cons_zero, List.set_cons_succ]
  have hS : W2.cell? ⟨b, 1, none⟩ = some (.slice vr rs.length cr) := (b1.cell (p := ⟨b, 1, none⟩) (Nat.lt_succ_self b)).trans (HD.cell 1)
  refine takeL (i := 12) (v := (.pointer (some ⟨b, 0, none⟩))) rfl (by kernel_rfl) (by kernel_rfl) (by kernel_rfl) (fun _ _ _ h => h) rfl (by assumption) (fun w' hS' => by go_simp) ?_
  simp only [Act.put, List.setIfInBounds_toArray, List.set_cons_zero, List.set_cons_succ]
  refine takeL (i := 13) (v := (.pointer (some ⟨b, 3, none⟩))) rfl (by kernel_rfl) (by kernel_rfl) (by kernel_rfl) (fun _ _ _ h => h) rfl (by assumption) (fun w' hS' => by go_simp) ?_
  simp only [Act.put, List.setIfInBounds_toArray, List.set_cons_zero, List.set_cons_succ]
  refine oneL (i := 14) rfl (by kernel_rfl) rfl (wp_store1 82 _ _ rfl b 3 rfl _ rfl rfl sz_is _ _ ((b1.block b (by omega)).trans HD.cells) (by simp [outV]) (fun W3 hC3 hx3 => ⟨(cell_of_row W3 b 1 _ _ _ hC3).trans rfl, ?_⟩))
  refine wpAnyH_done (by kernel_rfl) ?_ _
  refine hK _ _ ?_
  clear hK K
  refine gen_world (fun W => OutV b _ _ _ _ hd rs (hs ++ [hd.length]) (es ++ [rs.length]) ek _ W ∧ Below b w W) ⟨OutV.put (outXe q1) hx3 hC3, hB0.trans (hx3.below (b1.mono (by omega)) (Nat.le_refl _) (by have := HD.size; omega))⟩ ?_
  clear hC3 hx3 q1 b1 z1 hn1 o1 o2 hS HD hB0
  rintro WE ⟨HE, hB0⟩
  clear W3 W2
  have HE' := Lib.hid HE
  have hsrc := Lib.hid (own_rowV (HE.own.own 4 _ rfl))
  have hnil := Lib.hid (own_nil (HE.own.own 4 _ rfl))
  have hB0' := Lib.hid hB0
  clear HE hB0
  go_wp2_with (first
    | ((with_reducible refine at_load 34 ?_); refine at_ldaddr 34 b 0 rfl ?_; refine wpList_value (by rfl) _ (run_load_cell _ 34 _ (by rfl) ⟨b, 0, none⟩ (by rfl) _ (HE'.out.cell 0) _ Tryd.underlying34 rfl) ?_)
    | ((with_reducible refine at_load 34 ?_); refine at_ldaddr 34 b 1 rfl ?_; refine wpList_value (by rfl) _ (run_load_cell _ 34 _ (by rfl) ⟨b, 1, none⟩ (by rfl) _ (HE2.out.cell 1) _ Tryd.underlying34 rfl) ?_)
    | ((with_reducible refine at_bslice 34 ?_); go_loud (refine wpList_plain rfl fun K hK => wp_ran _ (run_bslice_4 _ _ (by rfl) (by rfl)) (hK _ _ ?_)); clear hK K)
    | ((with_reducible refine at_call_builtin .append ?_); refine wpList_appL (w0 := WE) (n0 := b + 1) rfl (.tmp 41) (.tmp 42) 34 5 rfl Tryd.underlying34 (.int .u8 0) 1 1 info_u8x rfl (by decide) (b + 1) _ 0 hd.length (.slice vv hd.length cv) _ rfl rfl (HE'.out.alloc _).own (some ⟨WE.heap.size, 0, none⟩) 4 4 rfl (fun e => by cases e) ([0, 0, 0, 0].map (Value.int .u8)) rfl (RowV.block (cs := #[.int .u8 0, .int .u8 0, .int .u8 0, .int .u8 0]) (heap_new _ _ _ _ rfl)) u8_mem (by omega) (by omega) (by rw [World.size_alloc]; have := HE'.out.size; omega) (Nat.le_refl _) ((Below.refl (b + 1) WE).alloc HE'.out.size _) ?_
       intro va1 c1 W1 hn1 q1 b1 z1 o1 o2
       have q1' := Lib.hid (outX0 (l := hd ++ [0, 0, 0, 0]) (by simp) (by rw [List.map_append]) q1)
       have b1' := Lib.hid b1
       clear q1 b1 hn1 o1 o2)
    | ((with_reducible refine at_store 34 ?_); refine at_staddr 34 b 0 rfl ?_; go_loud (
       refine wpList_plain rfl fun K hK => wp_store1 34 _ _ rfl b 0 rfl _ rfl rfl sz_bs _ _ ((b1'.out.block b (by omega)).trans HE'.out.cells) (by simp [outV]) (fun W2 hC2 hx2 => hK _ _ ?_)); clear hK K
       have HE2 := Lib.hid (OutV.put q1'.out hx2 hC2)
       have hB2 := Lib.hid (hB0'.out.trans (hx2.below (b1'.out.mono (by omega)) (Nat.le_refl _) (by have := HE'.out.size; omega)))
       have hsrc2 := Lib.hid (own_rowV (HE2.out.own.own 4 _ rfl))
       clear hC2 hx2 q1' b1' hB0')
    | ((with_reducible refine at_call_builtin .append ?_); refine wpList_appL (w0 := W2) (n0 := b + 1) rfl (.tmp 50) (.tmp 51) 34 5 rfl Tryd.underlying34 (.int .u8 0) 1 1 info_u8x rfl (by decide) (b + 1) _ 1 rs.length (.slice vr rs.length cr) _ rfl rfl HE2.out.own va m.length c rfl hnil.out (m.map (Value.int .u8)) (by simp) hsrc2.out u8_mem (by omega) (by omega) HE2.out.size (Nat.le_refl _) (Below.refl (b + 1) W2) ?_
       intro va2 c2 W3 hn1 q1 b1 z2 o1 o2
       have q1' := Lib.hid (outX1 (l := rs ++ m) (by simp) (by rw [List.map_append]) q1)
       have b1' := Lib.hid b1
       clear q1 b1 hn1 o1 o2)
    | ((with_reducible refine at_store 34 ?_); refine at_staddr 34 b 1 rfl ?_; go_loud (
       refine wpList_plain rfl fun K hK => wp_store1 34 _ _ rfl b 1 rfl _ rfl rfl sz_bs _ _ ((b1'.out.block b (by omega)).trans HE2.out.cells) (by simp [outV]) (fun W4 hC4 hx4 => hK _ _ ?_)); clear hK K))
  exact ret_none rfl rfl ⟨rfl, ⟨_, _, _, _, (OutV.put q1'.out hx4 hC4).drop⟩, hB2.out.trans (hx4.below (b1'.out.mono (by omega)) (Nat.le_refl _) (by have := HE2.out.size; omega))⟩
end Go.Proofs.YtihelknkcomjpaaDoor
namespace Go.Proofs.YtihelknkcomjpaaDoor
open Go.RowKit BigFrame
set_option maxRecDepth 100000
/-- The bytes of a number, the lowest ones first, put into a list. -/
def putK (l : List Int) (at' : Nat) (n : Int) : Nat → List Int
  | 0 => l
  | k + 1 => (putK l at' n k).set (at' + k) (leB n k)
theorem putK_length (l : List Int) (at' : Nat) (n : Int) : ∀ k, (putK l at' n k).length = l.length
  | 0 => rfl
  | k + 1 => by rw [putK, List.length_set, putK_length l at' n k]
/-- The first i offsets put into their holes. -/
def patchK (l : List Int) (hs es : List Nat) : Nat → List Int
  | 0 => l
  | i + 1 => putK (patchK l hs es i) (hs.getD i 0) ((l.length + es.getD i 0 : Nat) : Int) 4
theorem patchK_length (l : List Int) (hs es : List Nat) : ∀ i, (patchK l hs es i).length = l.length
  | 0 => rfl
  | i + 1 => by rw [patchK, putK_length, patchK_length l hs es i]
def doneL (hd rs : List Int) (hs es : List Nat) : List Int := patchK hd hs es hs.length ++ rs
theorem doneL_length (hd rs : List Int) (hs es : List Nat) : (doneL hd rs hs es).length = hd.length + rs.length := by rw [doneL, List.length_append, patchK_length]
theorem owI_cell {b i n c : Nat} {va : Option Addr} {l : List Nat} {base : Nat} {xs : List Ow} {w : World} (H : OwL base xs w) (hX : xs[i]? = some (owI (.slice va n c) l)) (k : Nat) (hk : k < l.length) : ∃ g, va = some ⟨g, 0, none⟩ ∧ w.cell? ⟨g, k, none⟩ = some (.int .i64 ((l.getD k 0 : Nat) : Int)) := by
  have h := own_rowV (n := n) (c := c) (va := va) (cs := l.map fun n : Nat => Value.int .i64 (n : Int)) (sz := 1) (e := 3) (base := base) (w := w) (by
    have h1 := H.own i _ hX
    have h2 := h1
    simp only [owI] at h2
    obtain ⟨va', c', e1, _⟩ := own_form h2
    cases e1
    exact h2) k (.int .i64 ((l.getD k 0 : Nat) : Int)) (by simp [List.getD, hk])
  obtain ⟨g, o, e, hc⟩ := h
  have h2 := H.own i _ hX
  simp only [owI] at h2
  rcases h2.2 with ⟨h3, _⟩ | ⟨g', cap, cur, h3, _⟩
  · cases h3; cases e
  · cases h3
    cases e
    exact ⟨g, rfl, by rw [← hc, Nat.zero_add]⟩
theorem OutV.head {b : Nat} {v r h e : Value} {hd rs : List Int} {hs es : List Nat} {er : Int} {xs : List Ow} {w : World} (H : OutV b v r h e hd rs hs es er xs w) (h0 : 0 < hd.length) : ∃ g c, v = .slice (some ⟨g, 0, none⟩) hd.length c ∧ b + 1 ≤ g := by
  have h1 := H.own.own 0 _ rfl
  rcases h1.2 with ⟨_, h2⟩ | ⟨g, cap, cur, h2, h3, _⟩
  · simp only [owB] at h2; omega
  · exact ⟨g, cap, h2, h3⟩
set_option maxHeartbeats 8000000 in
theorem outg_done (b : Nat) (hd rs : List Int) (hs es : List Nat) (w : World) (h : OutG b hd rs hs es 0 w) (hN0 : hs.length = es.length) (hat0 : ∀ i, i < hs.length → hs.getD i 0 + 4 ≤ hd.length) (hes0 : ∀ i, i < hs.length → es.getD i 0 ≤ 70368744170000) (hlen : hd.length + rs.length ≤ 70368744170000) (h1000 : hs.length ≤ 1000) :
    Calls Tryd.prog 41 #[.pointer (some ⟨b, 0, none⟩)] w fun e w' => (∃ va c, e = .returned (.tuple #[.slice va (hd.length + rs.length) c, .int .i64 0]) ∧ (va = none → c = 0) ∧ OwnB (b + 1) (.slice va (hd.length + rs.length) c) (doneL hd rs hs es) w') ∧ Below b w w' := by
  have hz := h.size
  obtain ⟨v, r, h, e, H0⟩ := h
  obtain ⟨⟨vv, cv, rfl⟩, ⟨vr, cr, rfl⟩, ⟨vh, ch, rfl⟩, ⟨ve, ce, rfl⟩⟩ := H0.form
  have H := Lib.hid H0
  have hat := Lib.hid hat0
  have hes := Lib.hid hes0
  have hN := Lib.hid hN0
  clear H0 hat0 hes0 hN0
  go_enter Tryd.func41, Tryd.ntmps41
  go_wp2_with (first
    | ((with_reducible refine at_load 36 ?_); refine wpList_value (by rfl) _ (run_load_cell _ 36 _ (by rfl) ⟨b, 4, none⟩ (by rfl) (.int .i64 0) (H.out.cell 4) _ Tryd.underlying36 rfl) ?_)
    | ((with_reducible refine at_load 82 ?_); refine wpList_value (by rfl) _ (run_load_cell _ 82 _ (by rfl) ⟨b, 2, none⟩ (by rfl) (.slice vh hs.length ch) (H.out.cell 2) _ Tryd.underlying82 rfl) ?_))
  go_loopw [22] (fun i wr => ∃ k : Nat, k ≤ hs.length ∧ i = .int .i64 (k : Int) ∧ OutV b (.slice vv hd.length cv) (.slice vr rs.length cr) (.slice vh hs.length ch) (.slice ve es.length ce) (patchK hd hs es k) rs hs es 0 [] wr ∧ Below b w wr) (fun i _ => hs.length - (intOf i).toNat)
  case atStart => exact ⟨0, by omega, rfl, H.out, Below.refl _ _⟩
  case round =>
    obtain ⟨k, hk, rfl, HC0, hB0⟩ := hrel

    have HC := Lib.hid HC0
    clear HC0 H
    by_cases hlt : k < hs.length
    · obtain ⟨gh, rfl, hch0⟩ := owI_cell (b := b) HC.out.own (i := 2) rfl k hlt
      obtain ⟨ge, rfl, hce0⟩ := owI_cell (b := b) HC.out.own (i := 3) rfl k (hN.out ▸ hlt)
      have hch := Lib.hid hch0
      have hce := Lib.hid hce0
      have hp := hat.out k hlt
      have hq := hes.out k hlt
      have lk : (k : Int) < (hs.length : Int) := by omega
      clear hch0 hce0
      have hpl := Lib.hid (patchK_length hd hs es k)
      have hps : patchK hd hs es (k + 1) = putK (patchK hd hs es k) (hs.getD k 0) ((hd.length + es.getD k 0 : Nat) : Int) 4 := rfl
      have hps' := Lib.hid hps
      clear hps
      generalize hs.getD k 0 = at' at *
      generalize es.getD k 0 = en at *
      obtain ⟨n, hn⟩ : ∃ n, n = hd.length + en := ⟨_, rfl⟩
      rw [← hn] at hps'
      have hw1 : IntKind.i64.wrap ((hd.length : Int) + (en : Int)) = (n : Int) := by rw [IntKind.wrap_i64]; omega
      have hn63 : n ≤ 140737488340000 := by omega
      have hn' := Lib.hid hn
      clear hn
      go_wp2_with (first
        | ((with_reducible refine at_iaddr 82 ?_); go_loud (refine wpList_value (by rfl) _ (run_index_slice _ 82 3 _ _ rfl Tryd.underlying82 1 sz_int gh 0 hs.length ch rfl .i64 k rfl hlt k (by omega)) ?_))
        | ((with_reducible refine at_load 3 ?_); go_loud (refine wpList_value (by rfl) _ (run_load_cell _ 3 _ (by rfl) ⟨gh, k, none⟩ (by rfl) (.int .i64 (at' : Int)) hch.out _ Tryd.underlying3 rfl) ?_)))
      refine wp_region_quiet_lit (by kernel_rfl) (by kernel_rfl) ?_
      repeat (first
        | go_big_quiet_skip
        | (go_big_quiet_want; first | ((first
        | ((with_reducible refine quiet_at_iaddr 82 ?_); refine quiet_value _ (fun w' _ => run_index_slice w' 82 3 _ _ rfl Tryd.underlying82 1 sz_int ge 0 es.length ce rfl .i64 k rfl (hN.out ▸ hlt) k (by omega)) ?_)
        | ((with_reducible refine quiet_at_load 34 ?_); refine quiet_value _ (fun w' hw' => run_load_cell w' 34 _ rfl ⟨b, 0, none⟩ rfl (.slice vv hd.length cv) (by obtain ⟨n, rfl⟩ := hw'; exact HC.out.cell 0) _ Tryd.underlying34 rfl) ?_)
        | ((with_reducible refine quiet_at_load 82 ?_); refine quiet_value _ (fun w' hw' => run_load_cell w' 82 _ rfl ⟨b, 3, none⟩ rfl (.slice (some ⟨ge, 0, none⟩) es.length ce) (by obtain ⟨n, rfl⟩ := hw'; exact HC.out.cell 3) _ Tryd.underlying82 rfl) ?_)
        | ((with_reducible refine quiet_at_load 3 ?_); refine quiet_value _ (fun w' hw' => run_load_cell w' 3 _ rfl ⟨ge, k, none⟩ rfl (.int .i64 (en : Int)) (by obtain ⟨n, rfl⟩ := hw'; exact hce.out) _ Tryd.underlying3 rfl) ?_)); (simp only [Act.put, List.setIfInBounds_toArray, List.set_cons_zero, List.set_cons_succ]); go_big_quiet_on) | (go_big_quiet_op; go_big_quiet_on)))
      refine wpQuiet_nil ?_
      intro _ hw'
      obtain ⟨nq, hw''⟩ := hw'
      subst hw''
      refine gen_q (fun W => OutV b (.slice vv hd.length cv) (.slice vr rs.length cr) (.slice (some ⟨gh, 0, none⟩) hs.length ch) (.slice (some ⟨ge, 0, none⟩) es.length ce) (patchK hd hs es k) rs hs es 0 [] W ∧ Below b w W) ⟨HC.out.drew _, ⟨hB0.os, hB0.tape, hB0.output, hB0.size, hB0.block⟩⟩ ?_
      clear HC hB0 hch hce
      rintro WD ⟨HD, hB0⟩
      obtain ⟨q, hqe⟩ : ∃ q, q = patchK hd hs es k := ⟨_, rfl⟩
      rw [← hqe] at HD hps' hpl
      clear hqe
      obtain ⟨gv, cv', ev, hgv⟩ := HD.head (by rw [hpl.out]; omega)
      rw [hpl.out] at ev
      cases ev
      have HD' := Lib.hid HD
      have hB0' := Lib.hid hB0
      clear HD hB0 hw1
      go_wp2
      go_loopw [40] (fun j wr => ∃ m : Nat, m ≤ 4 ∧ j = .int .i64 (m : Int) ∧ OutV b (.slice (some ⟨gv, 0, none⟩) hd.length cv) (.slice vr rs.length cr) (.slice (some ⟨gh, 0, none⟩) hs.length ch) (.slice (some ⟨ge, 0, none⟩) es.length ce) (putK q at' (n : Int) m) rs hs es 0 [] wr ∧ Below b w wr) (fun j _ => 4 - (intOf j).toNat)
      case atStart => exact ⟨0, by omega, rfl, HD'.out, hB0'.out⟩
      case round =>
        obtain ⟨m, hm, rfl, HE0, hB1⟩ := hrel
        clear HD' hB0'
        have HE := Lib.hid HE0
        clear HE0
        by_cases hlt2 : m < 4
        · have lm : (m : Int) < 4 := by omega
          have hpl2 : (putK q at' (n : Int) m).length = hd.length := (putK_length _ _ _ _).trans hpl.out
          have hpl2' := Lib.hid hpl2
          have hps2 : putK q at' (n : Int) (m + 1) = (putK q at' (n : Int) m).set (at' + m) (leB n m) := rfl
          have hps2' := Lib.hid hps2
          obtain ⟨p, hpe⟩ : ∃ p, p = putK q at' (n : Int) m := ⟨_, rfl⟩
          rw [← hpe] at HE hps2' hpl2'
          clear hps2 hpl2 hpe
          obtain ⟨s8, hs8⟩ : ∃ s8, s8 = 8 * m := ⟨_, rfl⟩
          obtain ⟨y, hy⟩ : ∃ y, y = leB (n : Int) m := ⟨_, rfl⟩
          have hw2 : IntKind.i64.wrap ((at' : Int) + (m : Int)) = ((at' + m : Nat) : Int) := by rw [IntKind.wrap_i64]; omega
          have hw3 : IntKind.i64.wrap (8 * (m : Int)) = (s8 : Int) := by rw [IntKind.wrap_i64]; omega
          have hw4 : IntKind.u8.wrap ((n : Int) / 2 ^ s8) = y := by rw [hy, hs8]; rfl
          rw [← hy] at hps2'
          have hw5 : min s8 64 = s8 := by omega
          clear hy hs8
          go_wp2
          rename_i K hK
          refine wp_region_held (S := fun w' => w'.cell? ⟨b, 0, none⟩ = some (.slice (some ⟨gv, 0, none⟩) hd.length cv)) (by kernel_rfl) ?_
          have hS : ({ wr with drawn := wr.drawn + 1 } : World).cell? ⟨b, 0, none⟩ = some (.slice (some ⟨gv, 0, none⟩) hd.length cv) := (HE.out.drew _).cell 0
          refine takeL (i := 0) (v := (.pointer (some ⟨b, 0, none⟩))) rfl (by kernel_rfl) (by kernel_rfl) (by kernel_rfl) (fun _ _ _ h => h) rfl (by assumption) (fun w' hS' => by go_simp) ?_
          simp only [Act.put, List.setIfInBounds_toArray, List.set_cons_zero, List.set_cons_succ]
          refine takeL (i := 1) (v := (.pointer (some ⟨b, 0, none⟩))) rfl (by kernel_rfl) (by kernel_rfl) (by kernel_rfl) (fun _ _ _ h => h) rfl (by assumption) (fun w' hS' => by go_simp) ?_
          simp only [Act.put, List.setIfInBounds_toArray, List.set_cons_zero, List.set_cons_succ]
          refine takeL (i := 2) (v := (.pointer (some ⟨b, 0, none⟩))) rfl (by kernel_rfl) (by kernel_rfl) (by kernel_rfl) (fun _ _ _ h => h) rfl (by assumption) (fun w' hS' => by go_simp) ?_
          simp only [Act.put, List.setIfInBounds_toArray, List.set_cons_zero, List.set_cons_succ]
          refine takeL (i := 4) (v := (.int .i64 (at' : Int))) rfl (by kernel_rfl) (by kernel_rfl) (by kernel_rfl) (fun _ _ _ h => h) rfl (by assumption) (fun w' hS' => by go_simp) ?_
          simp only [Act.put, List.setIfInBounds_toArray, List.set_cons_zero, List.set_cons_succ]
          refine takeL (i := 5) (v := (.int .i64 (m : Int))) rfl (by kernel_rfl) (by kernel_rfl) (by kernel_rfl) (fun _ _ _ h => h) rfl (by assumption) (fun w' hS' => by go_simp) ?_
          simp only [Act.put, List.setIfInBounds_toArray, List.set_cons_zero, List.set_cons_succ]
          refine takeL (i := 6) (v := (.int .i64 ((at' + m : Nat) : Int))) rfl (by kernel_rfl) (by kernel_rfl) (by kernel_rfl) (fun _ _ _ h => h) rfl (by assumption) (fun w' hS' => by go_simp) ?_
          simp only [Act.put, List.setIfInBounds_toArray, List.set_cons_zero, List.set_cons_succ]
          refine takeL (i := 7) (v := (.int .i64 (n : Int))) rfl (by kernel_rfl) (by kernel_rfl) (by kernel_rfl) (fun _ _ _ h => h) rfl (by assumption) (fun w' hS' => by go_simp) ?_
          simp only [Act.put, List.setIfInBounds_toArray, List.set_cons_zero, List.set_cons_succ]
          refine takeL (i := 8) (v := (.int .i64 (m : Int))) rfl (by kernel_rfl) (by kernel_rfl) (by kernel_rfl) (fun _ _ _ h => h) rfl (by assumption) (fun w' hS' => by go_simp) ?_
          simp only [Act.put, List.setIfInBounds_toArray, List.set_cons_zero, List.set_cons_succ]
          refine takeL (i := 9) (v := (.int .i64 (s8 : Int))) rfl (by kernel_rfl) (by kernel_rfl) (by kernel_rfl) (fun _ _ _ h => h) rfl (by assumption) (fun w' hS' => by go_simp) ?_
          simp only [Act.put, List.setIfInBounds_toArray, List.set_cons_zero, List.set_cons_succ]
          refine takeL (i := 10) (v := (.int .i64 ((n : Int) / 2 ^ s8))) rfl (by kernel_rfl) (by kernel_rfl) (by kernel_rfl) (fun _ _ _ h => h) rfl (by assumption) (fun w' hS' => by go_simp) ?_
          simp only [Act.put, List.setIfInBounds_toArray, List.set_cons_zero, List.set_cons_succ]
          refine takeL (i := 11) (v := (.int .u8 y)) rfl (by kernel_rfl) (by kernel_rfl) (by kernel_rfl) (fun _ _ _ h => h) rfl (by assumption) (fun w' hS' => by go_simp) ?_
          simp only [Act.put, List.setIfInBounds_toArray, List.set_cons_zero, List.set_cons_succ]
          refine takeL (i := 3) (v := (.slice (some ⟨gv, 0, none⟩) hd.length cv)) rfl (by kernel_rfl) (by kernel_rfl) (by kernel_rfl) (fun _ _ _ h => h) rfl (by assumption) (fun w' hS' => run_load_cell _ 34 _ (by rfl) ⟨b, 0, none⟩ (by rfl) _ hS' _ Tryd.underlying34 rfl) ?_
          simp only [Act.put, List.setIfInBounds_toArray, List.set_cons_zero, List.set_cons_succ]
          refine takeL (i := 12) (v := (.pointer (some ⟨gv, at' + m, none⟩))) rfl (by kernel_rfl) (by kernel_rfl) (by kernel_rfl) (fun _ _ _ h => h) rfl (by assumption) (fun w' _ => run_index_slice w' 34 5 _ _ (by rfl) Tryd.underlying34 1 sz_u8 gv 0 hd.length cv (by rfl) .i64 (at' + m) (by rfl) (by omega) (at' + m) (by omega)) ?_
          simp only [Act.put, List.setIfInBounds_toArray, List.set_cons_zero, List.set_cons_succ]
          refine oneL (i := 13) rfl (by kernel_rfl) rfl (wp_storeL 5 _ _ (by rfl) (b + 1) _ 0 p.length gv cv (at' + m) 5 1 _ (by rw [show hd.length = p.length from hpl2'.out.symm]; rfl) (HE.out.drew _).own rfl (.int .u8 y) rfl rfl sz_u8 (by rw [List.length_map, hpl2'.out]; omega) (fun W3 hO3 hx3 => ⟨(hx3.block b (by exact HE.out.size) (by omega) |> fun e => World.cell?_of_block (w := { wr with drawn := wr.drawn + 1 }) e).trans hS, ?_⟩))
          have hO4 := outX0 (l := p.set (at' + m) y) (by simp) (by rw [List.map_set]) hO3
          rw [hpl2'.out, ← hps2'.out] at hO4
          have hB4 := hx3.below (Below.mono ⟨hB1.os, hB1.tape, hB1.output, hB1.size, hB1.block⟩ (Nat.le_refl b) : Below b w { wr with drawn := wr.drawn + 1 }) (by omega) (by have := HE.out.size; show b ≤ wr.heap.size; omega)
          have HF := Lib.hid (OutV.mk ((hx3.block b (by exact HE.out.size) (by omega)).trans HE.out.cells) hO4)
          have hB4' := Lib.hid hB4
          refine wpAnyH_done (by kernel_rfl) ?_ _
          refine hK _ _ ?_
          clear hK K hO3 hO4 hx3 hB4 hB1 HE hps2' hpl2' hS hw2 hw3 hw4 hw5
          go_wp2
          first
            | exact ⟨⟨m + 1, by omega, by go_num, HF.out, hB4'.out⟩, by simp [intOf]; omega⟩
            | (refine ⟨?_, by simp [intOf]; omega⟩
               (repeat apply Exists.intro)
               exact ⟨⟨m + 1, by omega, by go_num, HF.out, hB4'.out⟩, rfl⟩)
        · have e4 : m = 4 := by omega
          subst e4
          rw [← hps'.out] at HE
          have hB5 := Lib.hid hB1
          clear hB1
          go_wp2
          first
            | exact ⟨⟨k + 1, by omega, by go_num, HE.out, hB5.out⟩, by simp [intOf]; omega⟩
            | (refine ⟨?_, by simp [intOf]; omega⟩
               (repeat apply Exists.intro)
               exact ⟨⟨k + 1, by omega, by go_num, HE.out, hB5.out⟩, rfl⟩)
    · have e0 : k = hs.length := by omega
      subst e0
      have hpl := patchK_length hd hs es hs.length
      have hdn : doneL hd rs hs es = patchK hd hs es hs.length ++ rs := rfl
      obtain ⟨p, hpe⟩ : ∃ p, p = patchK hd hs es hs.length := ⟨_, rfl⟩
      rw [← hpe] at HC hpl hdn
      have hdn' := Lib.hid hdn
      have hpl' := Lib.hid hpl
      have hB0' := Lib.hid hB0
      clear hpe hdn hpl hat hes hN hB0
      have hz0 := HC.out.size
      go_wp2
      rename_i K hK
      refine wp_region_held (S := fun w' => w'.heap[b]? = some (.cells (outV (.slice vv hd.length cv) (.slice vr rs.length cr) (.slice vh hs.length ch) (.slice ve es.length ce) 0) 84 (0, 0))) (by kernel_rfl) ?_
      have hS : ({ wr with drawn := wr.drawn + 1 } : World).heap[b]? = some (.cells (outV (.slice vv hd.length cv) (.slice vr rs.length cr) (.slice vh hs.length ch) (.slice ve es.length ce) 0) 84 (0, 0)) := HC.out.cells
      refine takeL (i := 0) (v := (.pointer (some ⟨b, 0, none⟩))) rfl (by kernel_rfl) (by kernel_rfl) (by kernel_rfl) (fun _ _ _ h => h) rfl (by assumption) (fun w' hS' => by go_simp) ?_
      simp only [Act.put, List.setIfInBounds_toArray, List.set_cons_zero, List.set_cons_succ]
      refine takeL (i := 4) (v := (.pointer (some ⟨b, 0, none⟩))) rfl (by kernel_rfl) (by kernel_rfl) (by kernel_rfl) (fun _ _ _ h => h) rfl (by assumption) (fun w' hS' => by go_simp) ?_
      simp only [Act.put, List.setIfInBounds_toArray, List.set_cons_zero, List.set_cons_succ]
      refine takeL (i := 1) (v := (.pointer (some ⟨b, 0, none⟩))) rfl (by kernel_rfl) (by kernel_rfl) (by kernel_rfl) (fun _ _ _ h => h) rfl (by assumption) (fun w' hS' => by go_simp) ?_
      simp only [Act.put, List.setIfInBounds_toArray, List.set_cons_zero, List.set_cons_succ]
      refine takeL (i := 5) (v := (.pointer (some ⟨b, 0, none⟩))) rfl (by kernel_rfl) (by kernel_rfl) (by kernel_rfl) (fun _ _ _ h => h) rfl (by assumption) (fun w' hS' => by go_simp) ?_
      simp only [Act.put, List.setIfInBounds_toArray, List.set_cons_zero, List.set_cons_succ]
      refine takeL (i := 2) (v := (.pointer (some ⟨b, 0, none⟩))) rfl (by kernel_rfl) (by kernel_rfl) (by kernel_rfl) (fun _ _ _ h => h) rfl (by assumption) (fun w' hS' => by go_simp) ?_
      simp only [Act.put, List.setIfInBounds_toArray, List.set_cons_zero, List.set_cons_succ]
      refine takeL (i := 6) (v := (.pointer (some ⟨b, 1, none⟩))) rfl (by kernel_rfl) (by kernel_rfl) (by kernel_rfl) (fun _ _ _ h => h) rfl (by assumption) (fun w' hS' => by go_simp) ?_
      simp only [Act.put, List.setIfInBounds_toArray, List.set_cons_zero, List.set_cons_succ]
      refine takeL (i := 3) (v := (.slice vv hd.length cv)) rfl (by kernel_rfl) (by kernel_rfl) (by kernel_rfl) (fun _ _ _ h => h) rfl (by assumption) (fun w' hS' => run_load_cell _ 34 _ (by rfl) ⟨b, 0, none⟩ (by rfl) _ (cell_of_row w' b 0 _ _ _ hS') _ Tryd.underlying34 rfl) ?_
      simp only [Act.put, List.setIfInBounds_toArray, List.set_cons_zero, List.set_cons_succ]
      refine takeL (i := 7) (v := (.slice vr rs.length cr)) rfl (by kernel_rfl) (by kernel_rfl) (by kernel_rfl) (fun _ _ _ h => h) rfl (by assumption) (fun w' hS' => run_load_cell _ 34 _ (by rfl) ⟨b, 1, none⟩ (by rfl) _ (cell_of_row w' b 1 _ _ _ hS') _ Tryd.underlying34 rfl) ?_
      simp only [Act.put, List.setIfInBounds_toArray, List.set_cons_zero, List.set_cons_succ]
      refine oneL (i := 8) rfl (by kernel_rfl) rfl (wp_appL (w0 := wr) (n0 := b + 1) (.tmp 61) (.tmp 65) 34 5 rfl Tryd.underlying34 (.int .u8 0) 1 1 info_u8x rfl (by decide) (b + 1) _ 0 p.length (.slice vv hd.length cv) _ rfl rfl (HC.out.drew _).own vr rs.length cr rfl (own_nil (HC.out.own.own 1 _ rfl)) (rs.map (Value.int .u8)) (by simp) (own_rowV ((HC.out.drew _).own.own 1 _ rfl)) u8_mem (by rw [hpl'.out]; omega) (by rw [hpl'.out]; omega) hz0 (Nat.le_refl _) ((Below.refl _ _).drew) (fun va1 c1 W2 hn1 q1 b1 z1 o1 o2 => ⟨(b1.block b (by omega)).trans HC.out.cells, ?_⟩))
      have q2 := q1.own 0 _ rfl
      simp only at q2
      rw [hpl'.out] at q2
      rw [hpl'.out]
      simp only [Act.put, List.setIfInBounds_toArray, List.set_cons_zero, List.set_cons_succ]
      have hS : W2.heap[b]? = some (.cells (outV (.slice vv hd.length cv) (.slice vr rs.length cr) (.slice vh hs.length ch) (.slice ve es.length ce) 0) 84 (0, 0)) := (b1.block b (by omega)).trans HC.out.cells
      refine takeL (i := 9) (v := (.slice va1 (hd.length + rs.length) c1)) rfl (by kernel_rfl) (by kernel_rfl) (by kernel_rfl) (fun _ _ _ h => h) rfl (by assumption) (fun w' hS' => by go_simp) ?_
      simp only [Act.put, List.setIfInBounds_toArray, List.set_cons_zero, List.set_cons_succ]
      refine takeL (i := 10) (v := (.int .i64 0)) rfl (by kernel_rfl) (by kernel_rfl) (by kernel_rfl) (fun _ _ _ h => h) rfl (by assumption) (fun w' hS' => by go_simp) ?_
      simp only [Act.put, List.setIfInBounds_toArray, List.set_cons_zero, List.set_cons_succ]
      refine wpAnyH_done (by kernel_rfl) ?_ _
      simp only [Exit.then]
      refine hK _ _ ?_
      go_wp2
      refine ret_t2 rfl _ _ rfl rfl rfl ⟨⟨_, _, rfl, hn1, ?_⟩, hB0'.out.trans (b1.mono (by omega))⟩
      unfold OwnB
      rw [doneL_length, hdn'.out, List.map_append]
      exact q2
set_option maxHeartbeats 4000000 in
theorem outg_doneE (b : Nat) (hd rs : List Int) (hs es : List Nat) (er : Int) (w : World) (h : OutG b hd rs hs es er w) (he : er ≠ 0) :
    Calls Tryd.prog 41 #[.pointer (some ⟨b, 0, none⟩)] w fun e w' => e = .returned (.tuple #[.slice none 0 0, .int .i64 er]) ∧ Below w.heap.size w w' := by
  obtain ⟨v, r, h, e, H0⟩ := h
  have H := Lib.hid H0
  clear H0
  have he' : (er != 0) = true := by simp [he]
  go_enter Tryd.func41, Tryd.ntmps41
  go_wp2_with (
    ((with_reducible refine at_load 36 ?_); refine wpList_value (by rfl) _ (run_load_cell _ 36 _ (by rfl) ⟨b, 4, none⟩ (by rfl) (.int .i64 er) (H.out.cell 4) _ Tryd.underlying36 rfl) ?_))
  refine wp_region_quiet_lit (by kernel_rfl) (by kernel_rfl) ?_
  repeat (first
    | go_big_quiet_skip
    | (go_big_quiet_want; first | ((
    ((with_reducible refine quiet_at_load 36 ?_); refine quiet_value _ (fun w' hw' => run_load_cell w' 36 _ rfl ⟨b, 4, none⟩ rfl (.int .i64 er) (by obtain ⟨n, rfl⟩ := hw'; exact H.out.cell 4) _ Tryd.underlying36 rfl) ?_)); (simp only [Act.put, List.setIfInBounds_toArray, List.set_cons_zero, List.set_cons_succ]); go_big_quiet_on) | (go_big_quiet_op; go_big_quiet_on)))
  refine wpQuiet_nil ?_
  intro _ hw'
  obtain ⟨nq, hw''⟩ := hw'
  subst hw''
  go_wp2
  exact ret_t2 rfl _ _ rfl rfl rfl ⟨rfl, ⟨rfl, rfl, rfl, Nat.le_refl _, fun _ _ => rfl⟩⟩
end Go.Proofs.YtihelknkcomjpaaDoor
