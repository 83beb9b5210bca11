/- The call's own slices of whatever elements; slices built with given parts; a store of one cell; a pair of operations that may come up either way round. -/
import Derived.Test.YtfnjcpopadpmbaaDoorJRead
import Derived.Deep.AppendLies
set_option linter.unusedVariables false
set_option linter.unusedSimpArgs false
set_option linter.unnecessarySimpa false
namespace Go.Proofs.YtfnjcpopadpmbaaDoor
open Go.RowKit BigFrame
set_option maxRecDepth 100000
theorem own_later {base : Nat} {e : TypeId} {sz n : Nat} {v : Value} {cs : List Value} {w w' : World} (h : w.ownsRow base e sz v n cs) (hb : Below w.heap.size w w') : w'.ownsRow base e sz v n cs := by
  refine ⟨h.1, ?_⟩
  rcases h.2 with hn | ⟨g, cap, cur, h1, h2, h3, h4⟩
  · exact Or.inl hn
  · exact Or.inr ⟨g, cap, cur, h1, h2, (hb.block g (Array.getElem?_eq_some_iff.1 h3).1).trans h3, h4⟩
theorem own_apart {base b : Nat} {e : TypeId} {sz n : Nat} {v : Value} {cs : List Value} {w w' : World} (h : w.ownsRow base e sz v n cs) (hx : Apart b w w') (hb : b < base) : w'.ownsRow base e sz v n cs := by
  refine ⟨h.1, ?_⟩
  rcases h.2 with hn | ⟨g, cap, cur, h1, h2, h3, h4⟩
  · exact Or.inl hn
  · exact Or.inr ⟨g, cap, cur, h1, h2, (hx.block g (Array.getElem?_eq_some_iff.1 h3).1 (by omega)).trans h3, h4⟩
theorem own_ge {base : Nat} {e : TypeId} {sz n : Nat} {v : Value} {cs : List Value} {w : World} (h : w.ownsRow base e sz v n cs) : ∀ k, v.ownBlock = some k → base ≤ k := fun k hk => (h.lt k hk).1
theorem own_form {base : Nat} {e : TypeId} {sz n : Nat} {v : Value} {cs : List Value} {w : World} (h : w.ownsRow base e sz v n cs) : ∃ va c, v = .slice va n c ∧ (va = none → c = 0) := by
  rcases h.2 with ⟨h1, h2⟩ | ⟨g, cap, cur, h1, _⟩
  · exact ⟨none, 0, by rw [h1, h2], fun _ => rfl⟩
  · exact ⟨_, cap, h1, fun e => by cases e⟩
theorem info_parts {P : Program} {e : TypeId} {z : Value} {size bytes : Nat} (h : (P.info? e).map (fun i => (i.zero, i.size, i.bytes)) = some (some z, size, bytes)) :
    ∃ i, P.info? e = some i ∧ i.zero = some z ∧ i.size = size ∧ i.bytes = bytes := by
  cases hq : P.info? e with
  | none => simp [hq] at h
  | some i =>
    simp only [hq, Option.map_some, Option.some.injEq, Prod.mk.injEq] at h
    exact ⟨i, rfl, h.1, h.2.1, h.2.2⟩
/-- append onto a slice of the call's own; the source lies anywhere. -/
theorem wp_appS {P : Program} {o : Oper} {a : Act} {w w0 : World} {K : Act → World → Prop} {Q : Exit → Act → World → Prop} {n0 : Nat} (s x : Operand) (t e : TypeId)
    (ho : o.op = .call { callee := .builtin .append, args := #[s, x], argTypes := #[t, t] }) (hu : P.underlying t = some (.slice e)) (z : Value) (size bytes : Nat)
    (hi : (P.info? e).map (fun i => (i.zero, i.size, i.bytes)) = some (some z, size, bytes)) (hzs : z.cells.size = size) (hsz : 0 < size)
    (base n : Nat) (v : Value) (xs : List Value) (hs : a.eval s = v) (hown : w.ownsRow base e size v n xs) (ad : Addr) (m c : Nat) (hx : a.eval x = .slice (some ad) m c) (news : List Value) (hl : news.length = m * size)
    (hnews : w.rangeAt ad.block ad.off news) (hsp : ad.spot = none) (h1 : ∀ u ∈ news, u.oneCell' = true) (hlen : n + m ≤ 70368744177664) (hbytes : (n + m) * bytes ≤ 140737488355328) (hbase : base ≤ w.heap.size) (hn0 : n0 ≤ base) (hb : Below n0 w0 w)
    (h : ∀ v' W, W.ownsRow base e size v' (n + m) (xs ++ news) → Below n0 w0 W → base ≤ W.heap.size → (∀ k, k < w.heap.size → some k ≠ v.ownBlock → W.heap[k]? = w.heap[k]?) → (v'.ownBlock = v.ownBlock ∨ v'.ownBlock = some w.heap.size) → K (a.put o.dst v') W) : o.wp P a w K Q := by
  obtain ⟨i, hi1, hz, hs1, hb1⟩ := info_parts hi
  obtain ⟨g, k, sp⟩ := ad
  simp only at hsp hnews
  subst hsp
  obtain ⟨v', W, hr, g1, g2, _, g4⟩ := run_append_own_at (P := P) w base t o.type e i z size bytes hu hi1 hz hs1 hb1 hzs hsz v n xs hown ⟨g, k, none⟩ m c news hl (fun j u hu => by
    rw [Addr.add_lit]
    exact hnews j u hu) h1 (by unfold maxLen; omega) hbytes hbase
  unfold Oper.wp execOp
  simp only [ho, resolve, invoke, builtin, Sem.run_bind, Sem.run_pure, Result.andThen_ok, List.map_toArray, List.map_cons, List.map_nil, hs, hx, hr]
  exact h v' W g1 (hb.grown g2 (Nat.le_trans hn0 hbase) (fun k hk => Nat.le_trans hn0 (own_ge hown k hk))) (Nat.le_trans hbase g2.size) (fun k h1 h2 => g2.block k h1 h2) g4
theorem fill_parts (sz : Nat) (hsz : 0 < sz) : ∀ (vs : List Value) (k : Nat) (pre : List Value) (post : List Value), (∀ v ∈ vs, v.cells.size = sz) → pre.length = k * sz → post.length = vs.length * sz →
    Instr.fill (fun i => some (i * sz, sz)) (pre ++ post).toArray ((vs.zipIdx k).map fun p => (p.2, p.1)) = some (pre ++ (vs.map fun v => v.cells.toList).flatten).toArray
  | [], k, pre, post, _, _, hpost => by
    have : post = [] := List.eq_nil_of_length_eq_zero (by simpa using hpost)
    subst this
    simp [Instr.fill]
  | v :: vs, k, pre, post, hv, hpre, hpost => by
    have hsv : v.cells.size = sz := hv v (by simp)
    have hlen : sz ≤ post.length := by rw [hpost, List.length_cons, Nat.add_mul]; omega
    have step : ∀ (l : List Value) (j : Nat) (A : List Value) (B : List Value), A.length = k * sz + j → l.length ≤ B.length →
        (l.zipIdx j).foldl (fun (cs : Array Value) (c, j) => cs.setIfInBounds (k * sz + j) c) (A ++ B).toArray = (A ++ l ++ B.drop l.length).toArray := by
      intro l
      induction l with
      | nil => intro j A B _ _; simp
      | cons x l ih =>
        intro j A B hA hB
        cases B with
        | nil => simp at hB
        | cons y B =>
          rw [List.zipIdx_cons, List.foldl_cons]
          have e : (A ++ y :: B).toArray.setIfInBounds (k * sz + j) x = ((A ++ [x]) ++ B).toArray := by
            rw [List.setIfInBounds_toArray, ← hA, List.set_append_right _ _ (Nat.le_refl _)]
            simp
          dsimp only
          rw [e, ih (j + 1) (A ++ [x]) B (by simp; omega) (by simpa using hB)]
          simp
    have hst := step v.cells.toList 0 pre post (by simpa using hpre) (by simpa [hsv] using hlen)
    rw [List.zipIdx_cons, List.map_cons, Instr.fill]
    dsimp only
    rw [if_neg (by simp [hsv, hpre]; omega)]
    have e2 : v.cells.zipIdx.foldl (fun cs (c, j) => cs.setIfInBounds (k * sz + j) c) (pre ++ post).toArray = (pre ++ v.cells.toList ++ post.drop sz).toArray := by
      rw [← Array.foldl_toList, Array.toList_zipIdx, hst]
      simp [hsv]
    rw [e2, fill_parts sz hsz vs (k + 1) (pre ++ v.cells.toList) (post.drop sz) (fun u hu => hv u (by simp [hu])) (by simp [hpre, hsv, Nat.add_mul]) (by simp [hpost, Nat.add_mul])]
    simp
/-- A slice of n given parts: a block of the call's own. -/
theorem run_buildSlice {P : Program} {ρ : Operand → Value} {o : Oper} (w : World) (t e : TypeId) (n : Nat) (parts : Array (Nat × Operand)) (ho : o.op = .buildSlice t n parts) (hu : P.underlying t = some (.slice e)) (z : Value) (size : Nat)
    (hi : (P.info? e).map (fun i => (i.zero, i.size)) = some (some z, size)) (hsz : 0 < size) (hlen : n * size ≤ 2 ^ 24) (vs : List Value) (hn : vs.length = n) (hp0 : (parts.toList.map fun p => (p.1, ρ p.2)) = vs.zipIdx.map fun p => (p.2, p.1)) (hv : ∀ v ∈ vs, v.cells.size = size) :
    (execOp ρ o).run P w = .ok (.value (.slice (some ⟨w.heap.size, 0, none⟩) n n)) (w.alloc (.cells (vs.map fun v => v.cells.toList).flatten.toArray e)) := by
  have hp : (parts.map fun (i, x) => (i, ρ x)).toList = vs.zipIdx.map fun p => (p.2, p.1) := by rw [Array.toList_map]; exact hp0
  have hz := (zero_of_info hi).1
  have hs : (P.info? e).map (·.size) = some size := by
    cases hq : P.info? e with
    | none => simp [hq] at hi
    | some i => simp [hq] at hi ⊢; exact hi.2
  cases hq : P.info? e with
  | none => simp [hq] at hs
  | some i =>
    have his : i.size = size := by simpa [hq] using hs
    have hfill := fun (arr : List Value) (ha : arr.length = n * size) => fill_parts size hsz vs 0 [] arr hv (by simp) (by rw [ha, hn])
    simp only [List.nil_append] at hfill
    have hgt : ¬ (n * size > 2 ^ 24) := by omega
    obtain ⟨R, hR⟩ : ∃ R : Array Value, R = (vs.map fun v => v.cells.toList).flatten.toArray := ⟨_, rfl⟩
    rw [← hR] at hfill ⊢
    clear hR
    unfold execOp
    simp only [ho, Instr.buildSlice, Sem.run_bind, run_underlying hu, Result.andThen_ok]
    have hso : (sizeOf e).run P w = .ok size w := by simp [sizeOf, typeInfo, hq, his, go_sem]
    simp only [hso, Result.andThen_ok, if_neg hgt]
    by_cases h0 : n * size = 0
    · have hf := hfill ((Array.range (n * size)).map fun x => (#[] : Array Value)[x % (#[] : Array Value).size]!).toList (by simp)
      rw [Array.toArray_toList] at hf
      simp only [if_pos h0, Sem.run_bind, Sem.run_pure, Result.andThen_ok, hp, hf]
      rfl
    · have hf := hfill ((Array.range (n * size)).map fun x => z.cells[x % z.cells.size]!).toList (by simp)
      rw [Array.toArray_toList] at hf
      simp only [if_neg h0, Sem.run_bind, Sem.run_pure, Result.andThen_ok, hz, hp, hf]
      rfl
def simpleV : Value → Bool
  | .int _ _ | .bool _ | .slice _ _ _ | .pointer _ => true
  | _ => false
theorem wp_store1 {P : Program} {o : Oper} {a : Act} {w : World} {K : Act → World → Prop} {Q : Exit → Act → World → Prop} (ty : TypeId) (x y : Operand) (ho : o.op = .store ty x y) (b k : Nat) (hx : a.eval x = .pointer (some ⟨b, k, none⟩)) (v : Value) (hy : a.eval y = v) (hv1 : simpleV v = true)
    (hz : (P.info? ty).map (·.size) = some 1) (C : Array Value) (t : TypeId) (hC : w.heap[b]? = some (.cells C t (0, 0))) (hk : k < C.size)
    (h : ∀ W, W.heap[b]? = some (.cells (C.setIfInBounds k v) t (0, 0)) → Apart b w W → K (a.put o.dst undef) W) : o.wp P a w K Q := by
  have hc : w.cell? ⟨b, k, none⟩ = some C[k] := (cell_of_row w b k C _ _ hC).trans (Array.getElem?_eq_getElem hk)
  have hf := Joins.unfrozen_of_block hC k
  cases hq : P.info? ty with
  | none => simp [hq] at hz
  | some i =>
    have hi : i.size = 1 := by simpa [hq] using hz
    have hs : (Instr.storeAt ty (.pointer (some ⟨b, k, none⟩)) v).run P w = .ok () (w.setCell ⟨b, k, none⟩ v) := by
      cases v <;> first
        | (simp [simpleV] at hv1; done)
        | simp [Instr.storeAt, Instr.sureAddr, storeVar, storeCells, sizeOf, typeInfo, hq, hi, go_sem, hc, hf]
    unfold Oper.wp execOp
    simp only [ho, hx, hy, Sem.run_bind, hs, Result.andThen, Sem.run_pure, Oper.upon_skip]
    exact h _ (Joins.block_setCell hC _) ((⟨rfl, rfl, rfl, Nat.le_refl _, fun _ _ _ => rfl⟩ : Apart b w w).setCell _ _)
theorem wp_ran {P : Program} {o : Oper} {a : Act} {w W : World} {K : Act → World → Prop} {Q : Exit → Act → World → Prop} (v : Value) (he : (execOp a.eval o).run P w = .ok (.value v) W) (h : K (a.put o.dst v) W) : o.wp P a w K Q := by
  unfold Oper.wp
  simp only [he, Oper.upon_value]
  exact h
section
variable {P : Program} {l : List Oper} {Q : Exit → Act → World → Prop} {md : Region.Mode} {S : World → Prop}
/-- Two that may come up either way round: one only reads, the other makes a block. -/
theorem pairL {i k : Nat} {oi ok : Oper} {fuel : Nat} {listed : Array Bool} {a : Act} {w Wn : World} (v p : Value) (hi : nth l i = some oi) (hk : nth l k = some ok) (hr : Region.ready md l.toArray listed = [i, k]) (hr1 : Region.ready md l.toArray (listed.setIfInBounds i true) = [k]) (hr2 : Region.ready md l.toArray (listed.setIfInBounds k true) = [i])
    (hwi : Region.wanted oi (yielded l.toArray a.tmps) = true) (hwk : Region.wanted ok (yielded l.toArray a.tmps) = true) (hwi' : Region.wanted oi (yielded l.toArray (a.put ok.dst p).tmps) = true) (hwk' : Region.wanted ok (yielded l.toArray (a.put oi.dst v).tmps) = true)
    (e1 : (execOp a.eval oi).run P w = .ok (.value v) w) (e2 : (execOp (a.put ok.dst p).eval oi).run P Wn = .ok (.value v) Wn) (e3 : (execOp a.eval ok).run P w = .ok (.value p) Wn) (e4 : (execOp (a.put oi.dst v).eval ok).run P w = .ok (.value p) Wn)
    (hS : S w) (hSn : S Wn) (hl : (listed.setIfInBounds i true).setIfInBounds k true = (listed.setIfInBounds k true).setIfInBounds i true) (hp : (a.put oi.dst v).put ok.dst p = (a.put ok.dst p).put oi.dst v)
    (h : wpAnyH P md l.toArray Q S fuel ((listed.setIfInBounds i true).setIfInBounds k true) ((a.put oi.dst v).put ok.dst p) Wn) : wpAnyH P md l.toArray Q S (fuel + 1 + 1) listed a w := by
  refine twoL hi hk hr hwi hwk (wp_ran v e1 ⟨hS, ?_⟩) (wp_ran p e3 ⟨hSn, ?_⟩)
  · exact oneL hk hr1 hwk' (wp_ran p e4 ⟨hSn, h⟩)
  · exact oneL hi hr2 hwi' (wp_ran v e2 ⟨hSn, by rw [← hl, ← hp]; exact h⟩)
end
theorem ret_none {P : Program} {fn : Func} {R : Ending → World → Prop} {a : Act} {w : World} (h : fn.results = #[]) (hd : a.defers = []) (hR : R (.returned (.tuple #[])) w) : bodyPost P fn R .normal a w := by
  refine bodyPost_end ?_ hd hR
  simp [results, h]
theorem ret_t1 {P : Program} {fn : Func} {R : Ending → World → Prop} {a : Act} {w : World} {t : Tmp} (h : fn.results = #[.tmp t]) (v : Value) (hv : a.tmps.getD t undef = v) (hd : a.defers = []) (hR : R (.returned v) w) : bodyPost P fn R .ret a w := by
  refine bodyPost_ret ?_ hd hR
  have hv' : a.tmps[t]?.getD undef = v := by simpa using hv
  simp [results, h, hv']
theorem ret_t2 {P : Program} {fn : Func} {R : Ending → World → Prop} {a : Act} {w : World} {t s : Tmp} (h : fn.results = #[.tmp t, .tmp s]) (v u : Value) (hv : a.tmps.getD t undef = v) (hu : a.tmps.getD s undef = u) (hd : a.defers = []) (hR : R (.returned (.tuple #[v, u])) w) : bodyPost P fn R .ret a w := by
  refine bodyPost_ret ?_ hd hR
  have hv' : a.tmps[t]?.getD undef = v := by simpa using hv
  have hu' : a.tmps[s]?.getD undef = u := by simpa using hu
  simp [results, h, hv', hu']
theorem at_bslice {P : Program} {ops : Array Oper} {Q : Exit → Act → World → Prop} {rest : List Oper} {a : Act} {w : World} {d : Option Tmp} {ty : TypeId} {pos : String} {af : Array Edge} {g : Option (Nat × Bool)} (t : TypeId) {n : Nat} {ps : Array (Nat × Operand)} (h : wpList P ops Q (⟨d, .buildSlice t n ps, ty, pos, af, g⟩ :: rest) a w) : wpList P ops Q (⟨d, .buildSlice t n ps, ty, pos, af, g⟩ :: rest) a w := h
theorem size_of {P : Program} {e : TypeId} {s : Nat} (h : (P.info? e).map (·.size) = some s) (w : World) : (sizeOf e).run P w = .ok s w := by
  cases hq : P.info? e with
  | none => simp [hq] at h
  | some i =>
    have hi : i.size = s := by simpa [hq] using h
    simp [sizeOf, typeInfo, hq, hi, go_sem]
theorem run_index_slice {P : Program} {ρ : Operand → Value} {o : Oper} (w : World) (t e : TypeId) (x y : Operand) (ho : o.op = .indexAddr t x y) (hu : P.underlying t = some (.slice e)) (sz : Nat) (hsz : (P.info? e).map (·.size) = some sz) (b off len cap : Nat) (hx : ρ x = .slice (some ⟨b, off, none⟩) len cap) (kd : IntKind) (i : Nat) (hy : ρ y = .int kd (i : Int)) (hi : i < len) (k : Nat) (hk : off + i * sz = k) :
    (execOp ρ o).run P w = .ok (.value (.pointer (some ⟨b, k, none⟩))) w := by
  have e2 : ((i : Int) < (len : Int)) := by omega
  have e1 : (0 : Int) ≤ (i : Int) := by omega
  unfold execOp
  simp only [ho, hx, hy, Instr.indexAt, asIntOf, Sem.run_bind, Sem.run_pure, Result.andThen_ok, run_underlying hu, if_pos (And.intro e1 e2), size_of hsz, Int.toNat_natCast, Addr.add_mid, hk]
end Go.Proofs.YtfnjcpopadpmbaaDoor
