/- Several slices of the call's own, apart from each other: what an append to one of them, or a store into one, leaves of the others. -/
import Derived.Test.YtfnjcpopadpmbaaDoorJPadded
import Derived.Test.YtfnjcpopadpmbaaDoorJTree
set_option linter.unusedVariables false
set_option linter.unusedSimpArgs false
set_option linter.unnecessarySimpa false
namespace Go.Proofs.YtfnjcpopadpmbaaDoor
open Go.RowKit BigFrame
set_option maxRecDepth 100000
/-- One slice of the call's own. -/
structure Ow where
  e : TypeId
  sz : Nat
  v : Value
  n : Nat
  cs : List Value
structure OwL (base : Nat) (xs : List Ow) (w : World) : Prop where
  own : ∀ (i : Nat) (x : Ow), xs[i]? = some x → w.ownsRow base x.e x.sz x.v x.n x.cs
  dis : ∀ (i j : Nat) (x y : Ow), i ≠ j → xs[i]? = some x → xs[j]? = some y → ∀ k, x.v.ownBlock = some k → y.v.ownBlock ≠ some k
theorem OwL.later {base : Nat} {xs : List Ow} {w w' : World} (h : OwL base xs w) (hb : Below w.heap.size w w') : OwL base xs w' :=
  ⟨fun i x hx => own_later (h.own i x hx) hb, h.dis⟩
theorem OwL.apart {base b : Nat} {xs : List Ow} {w w' : World} (h : OwL base xs w) (hx : Apart b w w') (hb : b < base) : OwL base xs w' :=
  ⟨fun i x hi => own_apart (h.own i x hi) hx hb, h.dis⟩
theorem OwL.weak {base base' : Nat} {xs : List Ow} {w : World} (h : OwL base xs w) (hb : base' ≤ base) : OwL base' xs w := by
  refine ⟨fun i x hi => ?_, h.dis⟩
  have h1 := h.own i x hi
  refine ⟨h1.1, ?_⟩
  rcases h1.2 with h2 | ⟨g, cap, cur, h2, h3, h4⟩
  · exact Or.inl h2
  · exact Or.inr ⟨g, cap, cur, h2, by omega, h4⟩
theorem set_at {α : Type} (xs : List α) (i j : Nat) (a y : α) (h : (xs.set i a)[j]? = some y) : (j = i ∧ y = a) ∨ (j ≠ i ∧ xs[j]? = some y) := by
  rw [List.getElem?_set] at h
  by_cases e : i = j
  · subst e
    rw [if_pos rfl] at h
    split at h
    · exact Or.inl ⟨rfl, (Option.some.inj h).symm⟩
    · cases h
  · rw [if_neg e] at h
    exact Or.inr ⟨fun e2 => e e2.symm, h⟩
theorem OwL.set {base : Nat} {xs : List Ow} {w W : World} (h : OwL base xs w) (i : Nat) (x x' : Ow) (hi : xs[i]? = some x) (h' : W.ownsRow base x'.e x'.sz x'.v x'.n x'.cs)
    (ho : ∀ k, k < w.heap.size → some k ≠ x.v.ownBlock → W.heap[k]? = w.heap[k]?) (hf : x'.v.ownBlock = x.v.ownBlock ∨ x'.v.ownBlock = some w.heap.size) : OwL base (xs.set i x') W := by
  have far : ∀ (j : Nat) (y : Ow), j ≠ i → xs[j]? = some y → ∀ k, y.v.ownBlock = some k → x'.v.ownBlock ≠ some k := fun j y hj hy k hk e => by
    rcases hf with hf | hf
    · exact h.dis j i y x hj hy hi k hk (hf ▸ e)
    · rw [hf] at e
      cases e
      have := ((h.own j y hy).lt _ hk).2
      omega
  refine ⟨fun j y hy => ?_, fun j1 j2 y1 y2 hne h1 h2 k hk => ?_⟩
  · rcases set_at _ _ _ _ _ hy with ⟨_, rfl⟩ | ⟨hj, hy⟩
    · exact h'
    · have hown := h.own j y hy
      refine ⟨hown.1, ?_⟩
      rcases hown.2 with h2 | ⟨g, cap, cur, h2, h3, h4, h5⟩
      · exact Or.inl h2
      · refine Or.inr ⟨g, cap, cur, h2, h3, (ho g (Array.getElem?_eq_some_iff.1 h4).1 (fun e => ?_)).trans h4, h5⟩
        exact h.dis j i y x hj hy hi g (by rw [h2]; rfl) e.symm
  · rcases set_at _ _ _ _ _ h1 with ⟨e1, q1⟩ | ⟨e1, k1⟩
    · rcases set_at _ _ _ _ _ h2 with ⟨e2, _⟩ | ⟨e2, k2⟩
      · exact absurd (e1.trans e2.symm) hne
      · intro e
        subst q1
        exact far j2 y2 e2 k2 k e hk
    · rcases set_at _ _ _ _ _ h2 with ⟨_, q2⟩ | ⟨e2, k2⟩
      · subst q2
        exact far j1 y1 e1 k1 k hk
      · exact h.dis j1 j2 y1 y2 hne k1 k2 k hk
/-- Where these cells lie, one behind the other. -/
def RowV (w : World) (va : Option Addr) (news : List Value) : Prop := ∀ j u, news[j]? = some u → ∃ b o, va = some ⟨b, o, none⟩ ∧ w.cell? ⟨b, o + j, none⟩ = some u
theorem RowV.block {w : World} {b : Nat} {t : TypeId} {fr : Nat × Nat} {cs : Array Value} (h : w.heap[b]? = some (.cells cs t fr)) : RowV w (some ⟨b, 0, none⟩) cs.toList := fun j u hu => by
  refine ⟨b, 0, rfl, ?_⟩
  rw [cell_of_row w b (0 + j) _ _ _ h, Nat.zero_add]
  simpa using hu
theorem RowV.range {w : World} {b o : Nat} {cs : List Value} (h : w.rangeAt b o cs) : RowV w (some ⟨b, o, none⟩) cs := fun j u hu => ⟨b, o, rfl, h j u hu⟩
theorem own_rowV {base sz n c : Nat} {e : TypeId} {va : Option Addr} {cs : List Value} {w : World} (h : w.ownsRow base e sz (.slice va n c) n cs) : RowV w va cs := fun j u hu => by
  rcases h.2 with ⟨_, h2⟩ | ⟨g, cap, cur, h2, _⟩
  · have h3 := h.1
    rw [h2, Nat.zero_mul] at h3
    rw [List.eq_nil_of_length_eq_zero h3] at hu
    cases hu
  · cases h2
    refine ⟨g, 0, rfl, ?_⟩
    rw [Nat.zero_add, h.cellAt j (by rw [← h.1]; exact (List.getElem?_eq_some_iff.1 hu).1)]
    exact hu
/-- append onto one of several slices of the call's own. -/
theorem wp_appL {P : Program} {o : Oper} {a : Act} {w w0 : World} {K : Act → World → Prop} {Q : Exit → Act → World → Prop} {n0 : Nat} (s x : Operand) (t e : TypeId)
    (ho : o.op = .call { callee := .builtin .append, args := #[s, x], argTypes := #[t, t] }) (hu : P.underlying t = some (.slice e)) (z : Value) (size bytes : Nat)
    (hi : (P.info? e).map (fun i => (i.zero, i.size, i.bytes)) = some (some z, size, bytes)) (hzs : z.cells.size = size) (hsz : 0 < size)
    (base : Nat) (xs : List Ow) (i n : Nat) (v : Value) (cs : List Value) (hX : xs[i]? = some ⟨e, size, v, n, cs⟩) (hs : a.eval s = v) (H : OwL base xs w) (va : Option Addr) (m c : Nat) (hx : a.eval x = .slice va m c) (hva : va = none → c = 0 ∧ m = 0) (news : List Value) (hl : news.length = m * size)
    (hnews : RowV w va news) (h1 : ∀ u ∈ news, u.oneCell' = true) (hlen : n + m ≤ 70368744177664) (hbytes : (n + m) * bytes ≤ 140737488355328) (hbase : base ≤ w.heap.size) (hn0 : n0 ≤ base) (hb : Below n0 w0 w)
    (h : ∀ va' c' W, (va' = none → c' = 0) → OwL base (xs.set i ⟨e, size, .slice va' (n + m) c', n + m, cs ++ news⟩) W → Below n0 w0 W → base ≤ W.heap.size → (∀ k, k < w.heap.size → some k ≠ v.ownBlock → W.heap[k]? = w.heap[k]?) → w.heap.size ≤ W.heap.size → K (a.put o.dst (.slice va' (n + m) c')) W) : o.wp P a w K Q := by
  obtain ⟨i0, hi1, hz, hs1, hb1⟩ := info_parts hi
  have hown := H.own i _ hX
  simp only at hown
  cases va with
  | none =>
    obtain ⟨rfl, rfl⟩ := hva rfl
    have hn0' : news = [] := List.eq_nil_of_length_eq_zero (by simpa using hl)
    subst hn0'
    obtain ⟨va', c', e1, hv1⟩ := own_form hown
    have hrun := run_append_owned_none (P := P) (w := w) base t o.type e i0 size hu hi1 v n _ hown
    unfold Oper.wp execOp
    simp only [ho, resolve, invoke, builtin, Sem.run_bind, Sem.run_pure, Result.andThen_ok, List.map_toArray, List.map_cons, List.map_nil, hs, hx, hrun]
    have hset : xs.set i ⟨e, size, v, n, cs⟩ = xs := by
      apply List.ext_getElem?
      intro j
      rw [List.getElem?_set]
      by_cases ej : i = j
      · subst ej
        rw [if_pos rfl, if_pos (List.getElem?_eq_some_iff.1 hX).1, hX]
      · rw [if_neg ej]
    subst e1
    exact h va' c' w hv1 (by simp only [Nat.add_zero, List.append_nil]; rw [hset]; exact H) hb hbase (fun _ _ _ => rfl) (Nat.le_refl _)
  | some ad =>
    obtain ⟨v', W, hr, g1, g2, _, g4⟩ := run_append_own_at (P := P) w base t o.type e i0 z size bytes hu hi1 hz hs1 hb1 hzs hsz v n cs hown ad m c news hl (fun j u hu => by
      obtain ⟨b, o, e, hc⟩ := hnews j u hu
      cases e
      rw [Addr.add_lit]
      exact hc) h1 (by unfold maxLen; omega) hbytes hbase
    obtain ⟨va', c', e1, hv1⟩ := own_form g1
    subst e1
    unfold Oper.wp execOp
    simp only [ho, resolve, invoke, builtin, Sem.run_bind, Sem.run_pure, Result.andThen_ok, List.map_toArray, List.map_cons, List.map_nil, hs, hx, hr]
    exact h va' c' W hv1 (H.set i _ _ hX g1 (fun k h1 h2 => g2.block k h1 h2) g4) (hb.grown g2 (Nat.le_trans hn0 hbase) (fun k hk => Nat.le_trans hn0 (own_ge hown k hk))) (Nat.le_trans hbase g2.size) (fun k h1 h2 => g2.block k h1 h2) g2.size
end Go.Proofs.YtfnjcpopadpmbaaDoor
