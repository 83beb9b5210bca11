/- An argument opened down to its cells, with the bulk of what is read there. -/
import Derived.Test.YtihelknkcomjpaaDoorJUpS
set_option linter.unusedVariables false
set_option linter.unusedSimpArgs false
set_option linter.unnecessarySimpa false
namespace Go.Proofs.YtihelknkcomjpaaDoor
open Go.RowKit Go.ChangeShapes Go.WideShapes Go.Deep
set_option maxRecDepth 100000
theorem bulk_mem {H : Type} : ∀ {l : List (DataW H)} {d : DataW H}, d ∈ l → Rows.uptoBulk d ≤ Rows.uptoBulkAll l
  | x :: l, d, h => by
    rcases List.mem_cons.1 h with rfl | h
    · simp only [Rows.uptoBulkAll]; omega
    · have := bulk_mem h
      simp only [Rows.uptoBulkAll]; omega
section
variable {H : Type} {enc : TypeId × Value → H} {P : Program} {w : World} {base : Nat} {spare : Nat → Bool} {held : Bool} {N : Nat}
theorem agg_bulk {xs : List (DataW H × List MemPlace)} {pl : List MemPlace} (h : Rows.uptoBulk ((DataW.agg (xs.map (·.1)), pl) : DataW H × List MemPlace).1 ≤ N) : ∀ y ∈ xs, Rows.uptoBulk y.1 ≤ N := fun y hy => by
  have h1 := bulk_mem (List.mem_map_of_mem (f := (·.1)) hy)
  simp only [Rows.uptoBulk] at h
  omega
/-- Each cell reads at its type. -/
def trodB (enc : TypeId × Value → H) (P : Program) (w : World) (base : Nat) (spare : Nat → Bool) (held : Bool) (N : Nat) : List TypeId → List Value → Prop
  | [], [] => True
  | t :: ts, v :: vs => (∃ fuel x, DataW.trod enc P w base spare held fuel t [v] = some x ∧ Rows.uptoBulk x.1 ≤ N) ∧ trodB enc P w base spare held N ts vs
  | _, _ => False
theorem trodB_length : ∀ {ts : List TypeId} {cs : List Value}, trodB enc P w base spare held N ts cs → cs.length = ts.length
  | [], [], _ => rfl
  | _ :: ts, _ :: cs, h => by simp [trodB_length (ts := ts) (cs := cs) h.2]
theorem trodB_append : ∀ {a b : List TypeId} {cs ds : List Value}, trodB enc P w base spare held N a cs → trodB enc P w base spare held N b ds → trodB enc P w base spare held N (a ++ b) (cs ++ ds)
  | [], _, [], _, _, h => h
  | _ :: a, _, _ :: cs, _, h, k => ⟨h.1, trodB_append (a := a) (cs := cs) h.2 k⟩
theorem trodB_get : ∀ {ts : List TypeId} {cs : List Value}, trodB enc P w base spare held N ts cs → ∀ (i : Nat) (t : TypeId), ts[i]? = some t → ∃ v, cs[i]? = some v ∧ ∃ fuel x, DataW.trod enc P w base spare held fuel t [v] = some x ∧ Rows.uptoBulk x.1 ≤ N
  | t :: ts, v :: cs, h, 0, u, hi => by
    simp at hi
    subst hi
    exact ⟨v, rfl, h.1⟩
  | t :: ts, v :: cs, h, i + 1, u, hi => by
    obtain ⟨v', h1, h2⟩ := trodB_get h.2 i u (by simpa using hi)
    exact ⟨v', by simpa using h1, h2⟩
theorem fields_openB (g : TypeId → Option (List TypeId)) (cs : List Value) : ∀ (fs : List Field) (off : Nat) (l : List TypeId), leafTF P g fs off = some l →
    (∀ f ∈ fs, ∀ lf, g f.type = some lf → P.cellsOf f.type = lf.length → trodB enc P w base spare held N lf ((cs.drop f.offset).take (P.cellsOf f.type))) → off + l.length = cs.length → trodB enc P w base spare held N l (cs.drop off)
  | [], off, l, h, _, hl => by
    simp only [leafTF, Option.some.injEq] at h
    subst h
    simp at hl
    rw [List.drop_eq_nil_of_le (by omega)]
    trivial
  | f :: fs, off, l, h, hf, hl => by
    unfold leafTF at h
    split at h
    · cases h
    · rename_i hoff
      simp only [bne_iff_ne, ne_eq, Decidable.not_not] at hoff
      split at h
      · rename_i lf hg
        split at h
        · rename_i hs
          have hs' : P.cellsOf f.type = lf.length := by simpa using hs
          obtain ⟨m, hm, rfl⟩ := Option.map_eq_some_iff.1 h
          have a1 := hf f (by simp) lf hg hs'
          rw [hoff, hs'] at a1
          have a2 := fields_openB g cs fs (off + lf.length) m hm (fun f' h' => hf f' (by simp [h'])) (by simp at hl; omega)
          rw [← List.drop_drop] at a2
          have := trodB_append a1 a2
          rwa [List.take_append_drop] at this
        · cases h
      · cases h
theorem elems_openB (l : List TypeId) (cs : List Value) : ∀ (k i : Nat), (∀ j, i ≤ j → j < i + k → trodB enc P w base spare held N l ((cs.drop (j * l.length)).take l.length)) → (i + k) * l.length = cs.length →
    trodB enc P w base spare held N (List.replicate k l).flatten (cs.drop (i * l.length))
  | 0, i, _, hl => by
    rw [List.drop_eq_nil_of_le (by simp at hl; omega)]
    trivial
  | k + 1, i, h, hl => by
    have a1 := h i (by omega) (by omega)
    have a2 := elems_openB l cs k (i + 1) (fun j h1 h2 => h j (by omega) (by omega)) (by rw [← hl]; congr 1; omega)
    rw [show (i + 1) * l.length = i * l.length + l.length by rw [Nat.add_mul, Nat.one_mul], ← List.drop_drop] at a2
    have := trodB_append a1 a2
    rw [List.take_append_drop] at this
    rw [List.replicate_succ, List.flatten_cons]
    exact this
/-- THE LAW: what reads, reads cell by cell. -/
theorem trod_cellsB : ∀ (d : Nat) (t : TypeId) (l : List TypeId), leafT P d t = some l → P.cellsOf t = l.length → ∀ (fuel : Nat) (cs : List Value) (x : DataW H × List MemPlace), DataW.trod enc P w base spare held fuel t cs = some x → Rows.uptoBulk x.1 ≤ N →
    trodB enc P w base spare held N l cs
  | 0, t, l, h => by simp [leafT] at h
  | d + 1, t, l, h => by
    intro hc fuel cs x hx hN
    unfold leafT at h
    split at h
    · rename_i n e hu
      split at h
      · rename_i le hle
        split at h
        · rename_i hs
          cases h
          have hs' : P.cellsOf e = le.length := by simpa using hs
          obtain ⟨xs, m, _, rfl, hlen, hxl, hel⟩ := DataW.trod_array hu hx
          have hxb := agg_bulk hN
          have := elems_openB (enc := enc) (P := P) (w := w) (base := base) (spare := spare) (held := held) le cs n 0 (fun j _ hj => by
            have hj' : j < n := by omega
            have := hel j hj'
            rw [hs', List.getElem?_eq_getElem (by omega)] at this
            exact trod_cellsB d e le hle hs' m _ _ this (hxb _ (List.getElem_mem _))) (by rw [hlen, hc]; simp)
          simpa using this
        · cases h
      · cases h
    · rename_i fs hu
      obtain ⟨xs, m, _, rfl, hlen, hxl, hf⟩ := DataW.trod_struct hu hx
      have hxb := agg_bulk hN
      have := fields_openB (enc := enc) (w := w) (base := base) (spare := spare) (held := held) (leafT P d) cs fs.toList 0 l h (fun f hfm lf hlf hsz => by
        obtain ⟨i, hi⟩ := List.mem_iff_getElem?.1 hfm
        have := hf i f (by simpa using hi)
        have hil : i < xs.length := by
          have := (List.getElem?_eq_some_iff.1 hi).1
          simp at this
          omega
        rw [List.getElem?_eq_getElem hil] at this
        exact trod_cellsB d f.type lf hlf hsz m _ _ this (hxb _ (List.getElem_mem _))) (by rw [hlen, hc]; simp)
      simpa using this
    · rename_i dd hna hns hu
      cases h
      obtain ⟨v, rfl⟩ := trod_leaf hu (by cases dd <;> simp_all [TypeDesc.isRow]) hx
      exact ⟨⟨fuel, x, hx, hN⟩, trivial⟩
    · cases h
/-- A slice of structs of numbers. -/
theorem rows_openB {t e : TypeId} {d sz : Nat} {kd : Nat → CK} (hu : P.underlying t = some (.slice e)) (hk : kdB P d e sz kd = true) (hsz : P.cellsOf e = sz) (h0 : 0 < sz) {fuel : Nat} {v : Value} {x : DataW H × List MemPlace}
    (h : DataW.trod enc P w base spare held fuel t [v] = some x) : ∃ va cap l, v = .slice va l.length cap ∧ Rows w va sz kd l ∧ l.length ≤ Rows.uptoBulk x.1 := by
  obtain ⟨va, cap, l, hv, hr, _⟩ := rows_open hu hk hsz h0 h
  refine ⟨va, cap, l, hv, hr, ?_⟩
  rcases open_slice hu h with ⟨e, rfl⟩ | ⟨a, len, cap', m, n, D, Pl, e, _, _, _, _, rfl, _⟩
  · rw [hv] at e
    simp only [List.cons.injEq, Value.slice.injEq, and_true] at e
    omega
  · rw [hv] at e
    simp only [List.cons.injEq, Value.slice.injEq, and_true] at e
    have := bulk_len ((List.range len).map D)
    simp only [Rows.uptoBulk, List.length_map, List.length_range] at this ⊢
    omega
theorem row_openB {t e : TypeId} {d : Nat} {c : CK} (hu : P.underlying t = some (.slice e)) (hk : kdB P d e 1 (fun _ => c) = true) (hsz : P.cellsOf e = 1) {fuel : Nat} {v : Value} {x : DataW H × List MemPlace}
    (h : DataW.trod enc P w base spare held fuel t [v] = some x) : ∃ va cap l, v = .slice va l.length cap ∧ Row w va c l ∧ l.length ≤ Rows.uptoBulk x.1 := by
  obtain ⟨va, cap, l, hv, hr, _⟩ := row_open hu hk hsz h
  obtain ⟨va', cap', l', hv', _, hb⟩ := rows_openB hu hk hsz (by decide) h
  rw [hv] at hv'
  injection hv' with _ e2 _
  exact ⟨va, cap, l, hv, hr, by omega⟩
/-- The types of a type's cells. -/
def cellTs (P : Program) (t : TypeId) : List TypeId := (leafT P 12 t).getD []
/-- Has the type n cells, of these kinds (none: a slice or the like)? -/
def kindsB (P : Program) (t : TypeId) (n : Nat) (K : Nat → Option CK) : Bool :=
  (leafT P 12 t).isSome && (cellTs P t).length == n && P.cellsOf t == n && (List.range n).all fun j => match K j with
    | some c => CK.isB P ((cellTs P t).getD j 0) c
    | none => true
theorem cells_openB {t : TypeId} {n : Nat} {K : Nat → Option CK} (hk : kindsB P t n K = true) {fuel : Nat} {cs : List Value} {x : DataW H × List MemPlace} (h : DataW.trod enc P w base spare held fuel t cs = some x) (hN : Rows.uptoBulk x.1 ≤ N) :
    cs.length = n ∧ (∀ j, j < n → ∀ c, K j = some c → ∃ v, cs[j]? = some v ∧ v = c.mk (num v) ∧ c.ok (num v)) ∧ ∀ j, j < n → ∃ v fuel y, cs[j]? = some v ∧ DataW.trod enc P w base spare held fuel ((cellTs P t).getD j 0) [v] = some y ∧ Rows.uptoBulk y.1 ≤ N := by
  unfold kindsB at hk
  simp only [Bool.and_eq_true, beq_iff_eq, List.all_eq_true, List.mem_range] at hk
  obtain ⟨⟨⟨h0, h1⟩, h2⟩, h3⟩ := hk
  obtain ⟨l, hl⟩ := Option.isSome_iff_exists.1 h0
  have hll : cellTs P t = l := by unfold cellTs; rw [hl]; rfl
  rw [hll] at h1 h3 ⊢
  have ht := trod_cellsB (N := N) 12 t l hl (by omega) fuel cs x h hN
  refine ⟨by rw [trodB_length ht, h1], fun j hj c hc => ?_, fun j hj => ?_⟩
  · obtain ⟨v, hv, f, y, hy, _⟩ := trodB_get ht j (l.getD j 0) (by simp [List.getD, show j < l.length by omega])
    have h4 := h3 j hj
    rw [hc] at h4
    exact ⟨v, hv, cell_kind h4 hy⟩
  · obtain ⟨v, hv, f, y, hy, hb⟩ := trodB_get ht j (l.getD j 0) (by simp [List.getD, show j < l.length by omega])
    exact ⟨v, f, y, hv, hy, hb⟩
end
end Go.Proofs.YtihelknkcomjpaaDoor
