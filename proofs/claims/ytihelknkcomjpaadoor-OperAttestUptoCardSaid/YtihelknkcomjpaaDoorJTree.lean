/- The call's own slices of whatever elements; slices built with given parts; a store of one cell; a pair of operations that may come up either way round. -/
/- wire.Out of the program: what is written, byte for byte. number of the reference. -/
/- wire.Out.Done; number and flag of the reference. -/
/- Trees of hashes, in plain words. -/
import Derived.Test.YtihelknkcomjpaaDoorJRead
import Derived.Deep.AppendLies
set_option linter.unusedVariables false
set_option linter.unusedSimpArgs false
set_option linter.unnecessarySimpa false
namespace Go.Proofs.YtihelknkcomjpaaDoor
open Go.RowKit BigFrame
set_option maxRecDepth 100000
theorem own_later {base : Nat} {e : TypeId} {sz n : Nat} {v : Value} {cs : List Value} {w w' : World} (h : w.ownsRow base e sz v n cs) (hb : Below w.heap.size w w') : w'.ownsRow base e sz v n cs := by
  refine ⟨h.1, ?_⟩
  rcases h.2 with hn | ⟨g, cap, cur, h1, h2, h3, h4⟩
  · exact Or.inl hn
  · exact Or.inr ⟨g, cap, cur, h1, h2, (hb.block g (Array.getElem?_eq_some_iff.1 h3).1).trans h3, h4⟩
theorem own_apart {base b : Nat} {e : TypeId} {sz n : Nat} {v : Value} {cs : List Value} {w w' : World} (h : w.ownsRow base e sz v n cs) (hx : Apart b w w') (hb : b < base) : w'.ownsRow base e sz v n cs := by
  refine ⟨h.1, ?_⟩
  rcases h.2 with hn | ⟨g, cap, cur, h1, h2, h3, h4⟩
  · exact Or.inl hn
  · exact Or.inr ⟨g, cap, cur, h1, h2, (hx.block g (Array.getElem?_eq_some_iff.1 h3).1 (by omega)).trans h3, h4⟩
theorem own_ge {base : Nat} {e : TypeId} {sz n : Nat} {v : Value} {cs : List Value} {w : World} (h : w.ownsRow base e sz v n cs) : ∀ k, v.ownBlock = some k → base ≤ k := fun k hk => (h.lt k hk).1
theorem own_form {base : Nat} {e : TypeId} {sz n : Nat} {v : Value} {cs : List Value} {w : World} (h : w.ownsRow base e sz v n cs) : ∃ va c, v = .slice va n c ∧ (va = none → c = 0) := by
  rcases h.2 with ⟨h1, h2⟩ | ⟨g, cap, cur, h1, _⟩
  · exact ⟨none, 0, by rw [h1, h2], fun _ => rfl⟩
  · exact ⟨_, cap, h1, fun e => by cases e⟩
theorem info_parts {P : Program} {e : TypeId} {z : Value} {size bytes : Nat} (h : (P.info? e).map (fun i => (i.zero, i.size, i.bytes)) = some (some z, size, bytes)) :
    ∃ i, P.info? e = some i ∧ i.zero = some z ∧ i.size = size ∧ i.bytes = bytes := by
  cases hq : P.info? e with
  | none => simp [hq] at h
  | some i =>
    simp only [hq, Option.map_some, Option.some.injEq, Prod.mk.injEq] at h
    exact ⟨i, rfl, h.1, h.2.1, h.2.2⟩
/-- append onto a slice of the call's own; the source lies anywhere. -/
theorem wp_appS {P : Program} {o : Oper} {a : Act} {w w0 : World} {K : Act → World → Prop} {Q : Exit → Act → World → Prop} {n0 : Nat} (s x : Operand) (t e : TypeId)
    (ho : o.op = .call { callee := .builtin .append, args := #[s, x], argTypes := #[t, t] }) (hu : P.underlying t = some (.slice e)) (z : Value) (size bytes : Nat)
    (hi : (P.info? e).map (fun i => (i.zero, i.size, i.bytes)) = some (some z, size, bytes)) (hzs : z.cells.size = size) (hsz : 0 < size)
    (base n : Nat) (v : Value) (xs : List Value) (hs : a.eval s = v) (hown : w.ownsRow base e size v n xs) (ad : Addr) (m c : Nat) (hx : a.eval x = .slice (some ad) m c) (news : List Value) (hl : news.length = m * size)
    (hnews : w.rangeAt ad.block ad.off news) (hsp : ad.spot = none) (h1 : ∀ u ∈ news, u.oneCell' = true) (hlen : n + m ≤ 70368744177664) (hbytes : (n + m) * bytes ≤ 140737488355328) (hbase : base ≤ w.heap.size) (hn0 : n0 ≤ base) (hb : Below n0 w0 w)
    (h : ∀ v' W, W.ownsRow base e size v' (n + m) (xs ++ news) → Below n0 w0 W → base ≤ W.heap.size → (∀ k, k < w.heap.size → some k ≠ v.ownBlock → W.heap[k]? = w.heap[k]?) → (v'.ownBlock = v.ownBlock ∨ v'.ownBlock = some w.heap.size) → K (a.put o.dst v') W) : o.wp P a w K Q := by
  obtain ⟨i, hi1, hz, hs1, hb1⟩ := info_parts hi
  obtain ⟨g, k, sp⟩ := ad
  simp only at hsp hnews
  subst hsp
  obtain ⟨v', W, hr, g1, g2, _, g4⟩ := run_append_own_at (P := P) w base t o.type e i z size bytes hu hi1 hz hs1 hb1 hzs hsz v n xs hown ⟨g, k, none⟩ m c news hl (fun j u hu => by
    rw [Addr.add_lit]
    exact hnews j u hu) h1 (by unfold maxLen; omega) hbytes hbase
  unfold Oper.wp execOp
  simp only [ho, resolve, invoke, builtin, Sem.run_bind, Sem.run_pure, Result.andThen_ok, List.map_toArray, List.map_cons, List.map_nil, hs, hx, hr]
  exact h v' W g1 (hb.grown g2 (Nat.le_trans hn0 hbase) (fun k hk => Nat.le_trans hn0 (own_ge hown k hk))) (Nat.le_trans hbase g2.size) (fun k h1 h2 => g2.block k h1 h2) g4
theorem fill_parts (sz : Nat) (hsz : 0 < sz) : ∀ (vs : List Value) (k : Nat) (pre : List Value) (post : List Value), (∀ v ∈ vs, v.cells.size = sz) → pre.length = k * sz → post.length = vs.length * sz →
    Instr.fill (fun i => some (i * sz, sz)) (pre ++ post).toArray ((vs.zipIdx k).map fun p => (p.2, p.1)) = some (pre ++ (vs.map fun v => v.cells.toList).flatten).toArray
  | [], k, pre, post, _, _, hpost => by
    have : post = [] := List.eq_nil_of_length_eq_zero (by simpa using hpost)
    subst this
    simp [Instr.fill]
  | v :: vs, k, pre, post, hv, hpre, hpost => by
    have hsv : v.cells.size = sz := hv v (by simp)
    have hlen : sz ≤ post.length := by rw [hpost, List.length_cons, Nat.add_mul]; omega
    have step : ∀ (l : List Value) (j : Nat) (A : List Value) (B : List Value), A.length = k * sz + j → l.length ≤ B.length →
        (l.zipIdx j).foldl (fun (cs : Array Value) (c, j) => cs.setIfInBounds (k * sz + j) c) (A ++ B).toArray = (A ++ l ++ B.drop l.length).toArray := by
      intro l
      induction l with
      | nil => intro j A B _ _; simp
      | cons x l ih =>
        intro j A B hA hB
        cases B with
        | nil => simp at hB
        | cons y B =>
          rw [List.zipIdx_cons, List.foldl_cons]
          have e : (A ++ y :: B).toArray.setIfInBounds (k * sz + j) x = ((A ++ [x]) ++ B).toArray := by
            rw [List.setIfInBounds_toArray, ← hA, List.set_append_right _ _ (Nat.le_refl _)]
            simp
          dsimp only
          rw [e, ih (j + 1) (A ++ [x]) B (by simp; omega) (by simpa using hB)]
          simp
    have hst := step v.cells.toList 0 pre post (by simpa using hpre) (by simpa [hsv] using hlen)
    rw [List.zipIdx_cons, List.map_cons, Instr.fill]
    dsimp only
    rw [if_neg (by simp [hsv, hpre]; omega)]
    have e2 : v.cells.zipIdx.foldl (fun cs (c, j) => cs.setIfInBounds (k * sz + j) c) (pre ++ post).toArray = (pre ++ v.cells.toList ++ post.drop sz).toArray := by
      rw [← Array.foldl_toList, Array.toList_zipIdx, hst]
      simp [hsv]
    rw [e2, fill_parts sz hsz vs (k + 1) (pre ++ v.cells.toList) (post.drop sz) (fun u hu => hv u (by simp [hu])) (by simp [hpre, hsv, Nat.add_mul]) (by simp [hpost, Nat.add_mul])]
    simp
/-- A slice of n given parts: a block of the call's own. -/
theorem run_buildSlice {P : Program} {ρ : Operand → Value} {o : Oper} (w : World) (t e : TypeId) (n : Nat) (parts : Array (Nat × Operand)) (ho : o.op = .buildSlice t n parts) (hu : P.underlying t = some (.slice e)) (z : Value) (size : Nat)
    (hi : (P.info? e).map (fun i => (i.zero, i.size)) = some (some z, size)) (hsz : 0 < size) (hlen : n * size ≤ 2 ^ 24) (vs : List Value) (hn : vs.length = n) (hp0 : (parts.toList.map fun p => (p.1, ρ p.2)) = vs.zipIdx.map fun p => (p.2, p.1)) (hv : ∀ v ∈ vs, v.cells.size = size) :
    (execOp ρ o).run P w = .ok (.value (.slice (some ⟨w.heap.size, 0, none⟩) n n)) (w.alloc (.cells (vs.map fun v => v.cells.toList).flatten.toArray e)) := by
  have hp : (parts.map fun (i, x) => (i, ρ x)).toList = vs.zipIdx.map fun p => (p.2, p.1) := by rw [Array.toList_map]; exact hp0
  have hz := (zero_of_info hi).1
  have hs : (P.info? e).map (·.size) = some size := by
    cases hq : P.info? e with
    | none => simp [hq] at hi
    | some i => simp [hq] at hi ⊢; exact hi.2
  cases hq : P.info? e with
  | none => simp [hq] at hs
  | some i =>
    have his : i.size = size := by simpa [hq] using hs
    have hfill := fun (arr : List Value) (ha : arr.length = n * size) => fill_parts size hsz vs 0 [] arr hv (by simp) (by rw [ha, hn])
    simp only [List.nil_append] at hfill
    have hgt : ¬ (n * size > 2 ^ 24) := by omega
    obtain ⟨R, hR⟩ : ∃ R : Array Value, R = (vs.map fun v => v.cells.toList).flatten.toArray := ⟨_, rfl⟩
    rw [← hR] at hfill ⊢
    clear hR
    unfold execOp
    simp only [ho, Instr.buildSlice, Sem.run_bind, run_underlying hu, Result.andThen_ok]
    have hso : (sizeOf e).run P w = .ok size w := by simp [sizeOf, typeInfo, hq, his, go_sem]
    simp only [hso, Result.andThen_ok, if_neg hgt]
    by_cases h0 : n * size = 0
    · have hf := hfill ((Array.range (n * size)).map fun x => (#[] : Array Value)[x % (#[] : Array Value).size]!).toList (by simp)
      rw [Array.toArray_toList] at hf
      simp only [if_pos h0, Sem.run_bind, Sem.run_pure, Result.andThen_ok, hp, hf]
      rfl
    · have hf := hfill ((Array.range (n * size)).map fun x => z.cells[x % z.cells.size]!).toList (by simp)
      rw [Array.toArray_toList] at hf
      simp only [if_neg h0, Sem.run_bind, Sem.run_pure, Result.andThen_ok, hz, hp, hf]
      rfl
def simpleV : Value → Bool
  | .int _ _ | .bool _ | .slice _ _ _ | .pointer _ => true
  | _ => false
theorem wp_store1 {P : Program} {o : Oper} {a : Act} {w : World} {K : Act → World → Prop} {Q : Exit → Act → World → Prop} (ty : TypeId) (x y : Operand) (ho : o.op = .store ty x y) (b k : Nat) (hx : a.eval x = .pointer (some ⟨b, k, none⟩)) (v : Value) (hy : a.eval y = v) (hv1 : simpleV v = true)
    (hz : (P.info? ty).map (·.size) = some 1) (C : Array Value) (t : TypeId) (hC : w.heap[b]? = some (.cells C t (0, 0))) (hk : k < C.size)
    (h : ∀ W, W.heap[b]? = some (.cells (C.setIfInBounds k v) t (0, 0)) → Apart b w W → K (a.put o.dst undef) W) : o.wp P a w K Q := by
  have hc : w.cell? ⟨b, k, none⟩ = some C[k] := (cell_of_row w b k C _ _ hC).trans (Array.getElem?_eq_getElem hk)
  have hf := Joins.unfrozen_of_block hC k
  cases hq : P.info? ty with
  | none => simp [hq] at hz
  | some i =>
    have hi : i.size = 1 := by simpa [hq] using hz
    have hs : (Instr.storeAt ty (.pointer (some ⟨b, k, none⟩)) v).run P w = .ok () (w.setCell ⟨b, k, none⟩ v) := by
      cases v <;> first
        | (simp [simpleV] at hv1; done)
        | simp [Instr.storeAt, Instr.sureAddr, storeVar, storeCells, sizeOf, typeInfo, hq, hi, go_sem, hc, hf]
    unfold Oper.wp execOp
    simp only [ho, hx, hy, Sem.run_bind, hs, Result.andThen, Sem.run_pure, Oper.upon_skip]
    exact h _ (Joins.block_setCell hC _) ((⟨rfl, rfl, rfl, Nat.le_refl _, fun _ _ _ => rfl⟩ : Apart b w w).setCell _ _)
theorem wp_ran {P : Program} {o : Oper} {a : Act} {w W : World} {K : Act → World → Prop} {Q : Exit → Act → World → Prop} (v : Value) (he : (execOp a.eval o).run P w = .ok (.value v) W) (h : K (a.put o.dst v) W) : o.wp P a w K Q := by
  unfold Oper.wp
  simp only [he, Oper.upon_value]
  exact h
section
variable {P : Program} {l : List Oper} {Q : Exit → Act → World → Prop} {md : Region.Mode} {S : World → Prop}
/-- Two that may come up either way round: one only reads, the other makes a block. -/
theorem pairL {i k : Nat} {oi ok : Oper} {fuel : Nat} {listed : Array Bool} {a : Act} {w Wn : World} (v p : Value) (hi : nth l i = some oi) (hk : nth l k = some ok) (hr : Region.ready md l.toArray listed = [i, k]) (hr1 : Region.ready md l.toArray (listed.setIfInBounds i true) = [k]) (hr2 : Region.ready md l.toArray (listed.setIfInBounds k true) = [i])
    (hwi : Region.wanted oi (yielded l.toArray a.tmps) = true) (hwk : Region.wanted ok (yielded l.toArray a.tmps) = true) (hwi' : Region.wanted oi (yielded l.toArray (a.put ok.dst p).tmps) = true) (hwk' : Region.wanted ok (yielded l.toArray (a.put oi.dst v).tmps) = true)
    (e1 : (execOp a.eval oi).run P w = .ok (.value v) w) (e2 : (execOp (a.put ok.dst p).eval oi).run P Wn = .ok (.value v) Wn) (e3 : (execOp a.eval ok).run P w = .ok (.value p) Wn) (e4 : (execOp (a.put oi.dst v).eval ok).run P w = .ok (.value p) Wn)
    (hS : S w) (hSn : S Wn) (hl : (listed.setIfInBounds i true).setIfInBounds k true = (listed.setIfInBounds k true).setIfInBounds i true) (hp : (a.put oi.dst v).put ok.dst p = (a.put ok.dst p).put oi.dst v)
    (h : wpAnyH P md l.toArray Q S fuel ((listed.setIfInBounds i true).setIfInBounds k true) ((a.put oi.dst v).put ok.dst p) Wn) : wpAnyH P md l.toArray Q S (fuel + 1 + 1) listed a w := by
  refine twoL hi hk hr hwi hwk (wp_ran v e1 ⟨hS, ?_⟩) (wp_ran p e3 ⟨hSn, ?_⟩)
  · exact oneL hk hr1 hwk' (wp_ran p e4 ⟨hSn, h⟩)
  · exact oneL hi hr2 hwi' (wp_ran v e2 ⟨hSn, by rw [← hl, ← hp]; exact h⟩)
end
theorem ret_none {P : Program} {fn : Func} {R : Ending → World → Prop} {a : Act} {w : World} (h : fn.results = #[]) (hd : a.defers = []) (hR : R (.returned (.tuple #[])) w) : bodyPost P fn R .normal a w := by
  refine bodyPost_end ?_ hd hR
  simp [results, h]
theorem ret_t1 {P : Program} {fn : Func} {R : Ending → World → Prop} {a : Act} {w : World} {t : Tmp} (h : fn.results = #[.tmp t]) (v : Value) (hv : a.tmps.getD t undef = v) (hd : a.defers = []) (hR : R (.returned v) w) : bodyPost P fn R .ret a w := by
  refine bodyPost_ret ?_ hd hR
  have hv' : a.tmps[t]?.getD undef = v := by simpa using hv
  simp [results, h, hv']
theorem ret_t2 {P : Program} {fn : Func} {R : Ending → World → Prop} {a : Act} {w : World} {t s : Tmp} (h : fn.results = #[.tmp t, .tmp s]) (v u : Value) (hv : a.tmps.getD t undef = v) (hu : a.tmps.getD s undef = u) (hd : a.defers = []) (hR : R (.returned (.tuple #[v, u])) w) : bodyPost P fn R .ret a w := by
  refine bodyPost_ret ?_ hd hR
  have hv' : a.tmps[t]?.getD undef = v := by simpa using hv
  have hu' : a.tmps[s]?.getD undef = u := by simpa using hu
  simp [results, h, hv', hu']
theorem at_bslice {P : Program} {ops : Array Oper} {Q : Exit → Act → World → Prop} {rest : List Oper} {a : Act} {w : World} {d : Option Tmp} {ty : TypeId} {pos : String} {af : Array Edge} {g : Option (Nat × Bool)} (t : TypeId) {n : Nat} {ps : Array (Nat × Operand)} (h : wpList P ops Q (⟨d, .buildSlice t n ps, ty, pos, af, g⟩ :: rest) a w) : wpList P ops Q (⟨d, .buildSlice t n ps, ty, pos, af, g⟩ :: rest) a w := h
theorem size_of {P : Program} {e : TypeId} {s : Nat} (h : (P.info? e).map (·.size) = some s) (w : World) : (sizeOf e).run P w = .ok s w := by
  cases hq : P.info? e with
  | none => simp [hq] at h
  | some i =>
    have hi : i.size = s := by simpa [hq] using h
    simp [sizeOf, typeInfo, hq, hi, go_sem]
theorem run_index_slice {P : Program} {ρ : Operand → Value} {o : Oper} (w : World) (t e : TypeId) (x y : Operand) (ho : o.op = .indexAddr t x y) (hu : P.underlying t = some (.slice e)) (sz : Nat) (hsz : (P.info? e).map (·.size) = some sz) (b off len cap : Nat) (hx : ρ x = .slice (some ⟨b, off, none⟩) len cap) (kd : IntKind) (i : Nat) (hy : ρ y = .int kd (i : Int)) (hi : i < len) (k : Nat) (hk : off + i * sz = k) :
    (execOp ρ o).run P w = .ok (.value (.pointer (some ⟨b, k, none⟩))) w := by
  have e2 : ((i : Int) < (len : Int)) := by omega
  have e1 : (0 : Int) ≤ (i : Int) := by omega
  unfold execOp
  simp only [ho, hx, hy, Instr.indexAt, asIntOf, Sem.run_bind, Sem.run_pure, Result.andThen_ok, run_underlying hu, if_pos (And.intro e1 e2), size_of hsz, Int.toNat_natCast, Addr.add_mid, hk]
def vlen : Value → Nat
  | .slice _ n _ => n
  | _ => 0
end Go.Proofs.YtihelknkcomjpaaDoor
namespace Go.Proofs.YtihelknkcomjpaaDoor
open Go.RowKit BigFrame
set_option maxRecDepth 100000
def numL (m : Int) : List Int := (List.range 8).map (leB m)
theorem numL_length (m : Int) : (numL m).length = 8 := by simp [numL]
theorem numL_ok (m : Int) : ∀ n ∈ numL m, CK.ok .u8 n := by
  intro n hn
  obtain ⟨j, _, rfl⟩ := List.mem_map.1 hn
  exact leB_is m j
theorem row_num_at {w : World} {b : Nat} {m : Int} {t : TypeId} (h : w.heap[b]? = some (.cells (numV m) t (0, 0))) : Row w (some ⟨b, 0, none⟩) .u8 (numL m) := by
  refine ⟨fun i hi => ⟨b, 0, rfl, ?_⟩, numL_ok m⟩
  have hi' : i < 8 := by rw [numL_length] at hi; exact hi
  rw [cell_of_row w b (0 + i) _ _ _ h, Nat.zero_add, List.getElem?_toArray, fcells_get _ _ _ _ hi']
  simp [numL, List.getD, hi']
def outC (v : Value) : Array Value := #[v, .slice none 0 0, .slice none 0 0, .slice none 0 0, .int .i64 0]
/-- The Out in block b has written the bytes l. -/
def OutW (b : Nat) (l : List Int) (w : World) : Prop := ∃ v, w.heap[b]? = some (.cells (outC v) 84 (0, 0)) ∧ OwnB (b + 1) v l w
theorem OutW.size {b : Nat} {l : List Int} {w : World} (h : OutW b l w) : b + 1 ≤ w.heap.size := by
  obtain ⟨v, h1, _⟩ := h
  by_cases c : b < w.heap.size
  · exact c
  · simp [Array.getElem?_eq_none (Nat.le_of_not_lt c)] at h1
theorem OutW.is {b : Nat} {l : List Int} {w : World} {v : Value} (h1 : w.heap[b]? = some (.cells (outC v) 84 (0, 0))) (h2 : OwnB (b + 1) v l w) : OutW b l w := ⟨v, h1, h2⟩
theorem cell_out {b : Nat} {v : Value} {w : World} (h : w.heap[b]? = some (.cells (outC v) 84 (0, 0))) : w.cell? ⟨b, 0, none⟩ = some v := by
  rw [cell_of_row w b 0 _ _ _ h]
  rfl
theorem sz_bs : (Tryd.prog.info? 34).map (·.size) = some 1 := by kernel_rfl
set_option maxHeartbeats 4000000 in
theorem out_bytes (b : Nat) (l m : List Int) (va : Option Addr) (c : Nat) (w : World) (h : OutW b l w) (hm : Row w va .u8 m) (hva : va = none → c = 0) (hlen : l.length + m.length ≤ 70368744177664) :
    Calls Tryd.prog 39 #[.pointer (some ⟨b, 0, none⟩), .slice va m.length c] w fun e w' => e = .returned (.tuple #[]) ∧ OutW b (l ++ m) w' ∧ Below b w w' := by
  have hz := h.size
  obtain ⟨v, hb, hv⟩ := h
  have hb' := Lib.hid hb
  have hv' := Lib.hid hv
  have hm' := Lib.hid hm
  have hva' := Lib.hid hva
  clear hb hv hm hva
  go_enter Tryd.func39, Tryd.ntmps39
  go_wp2_with (first
    | ((with_reducible refine at_load 34 ?_); refine wpList_value (by rfl) _ (run_load_cell _ 34 _ (by rfl) ⟨b, 0, none⟩ (by rfl) v (cell_out hb'.out) _ Tryd.underlying34 rfl) ?_)
    | ((with_reducible refine at_call_builtin .append ?_); refine wpList_app rfl (.tmp 8) (.tmp 9) rfl (b + 1) l m v rfl hv'.out va c rfl hm'.out hlen hz hva'.out (Below.refl (b + 1) w) ?_
       intro v1 W1 h1 b1 z1)
    | ((with_reducible refine at_store 34 ?_); go_loud (obtain ⟨va1, c1, e1, _⟩ := own_form h1); subst e1
       refine wpList_plain rfl fun K hK => wp_store1 34 _ _ rfl b 0 rfl _ rfl rfl sz_bs _ _ ((b1.block b (by omega)).trans hb'.out) (by simp [outC]) (fun W2 hC2 hx2 => hK _ _ ?_)))
  exact ret_none rfl rfl ⟨rfl, OutW.is hC2 (own_apart h1 hx2 (by omega)), hx2.below (b1.mono (by omega)) (Nat.le_refl _) (by omega)⟩
theorem numV_one (m : Int) : (numV m).all (·.oneCell') = true := fcells_one _ _ _
set_option maxHeartbeats 4000000 in
theorem out_u64 (b : Nat) (l : List Int) (m : Int) (w : World) (h : OutW b l w) (hlen : l.length ≤ 70368744170000) :
    Calls Tryd.prog 62 #[.pointer (some ⟨b, 0, none⟩), .int .u64 m] w fun e w' => e = .returned (.tuple #[]) ∧ OutW b (l ++ numL m) w' ∧ Below b w w' := by
  have hz := h.size
  obtain ⟨v, hb, hv⟩ := h
  have hb' := Lib.hid hb
  have hv' := Lib.hid hv
  clear hb hv
  have hm1 := Lib.hid (bytes_any m w)
  go_enter Tryd.func62, Tryd.ntmps62
  go_wp2_with (first
    | ((with_reducible refine hm1.out.mono ?_)
       rintro e W ⟨rfl, hbW⟩
       have hbW' := Lib.hid hbW
       clear hbW)
    | ((with_reducible refine at_alloc 155 ?_); go_loud (refine wpList_alloc_store rfl rfl 155 4 _ rfl rfl rfl (numV m) rfl rfl (zeroOf Tryd.prog 155) (row_zero row_b8).1 (row_zero row_b8).2 (numV_one _) ?_)))
  refine gen_world (fun W1 => W1.heap[b]? = some (.cells (outC v) 84 (0, 0)) ∧ OwnB (b + 1) v l W1 ∧ W1.heap[W.heap.size]? = some (.cells (numV m) 155 (0, 0)) ∧ Below (b + 1) w W1 ∧ b + 1 ≤ W.heap.size ∧ W1.heap.size = W.heap.size + 1) ⟨?_, ?_, heap_new _ _ _ _ rfl, ?_, Nat.le_trans hz hbW'.out.size, by simp⟩ ?_
  · exact heap_past _ _ _ _ ((hbW'.out.block b (by omega)).trans hb'.out)
  · exact (hv'.out.later hbW'.out).later ((Below.refl _ _).alloc (Nat.le_refl _) _)
  · exact (hbW'.out.mono hz).alloc (Nat.le_trans hz hbW'.out.size) _
  intro W1 hW1
  obtain ⟨kb, kv, kn, kB, kz, ks⟩ := hW1
  simp only [Act.put, List.setIfInBounds_toArray, List.set_cons_zero, List.set_cons_succ]
  clear hbW'
  generalize W.heap.size = n at *
  refine wp_region_held (S := fun _ => True) (by kernel_rfl) ?_
  have hS : True := trivial
  have hB1 : Below (b + 1) w { W1 with drawn := W1.drawn + 1 } := kB.drew
  refine takeL (i := 0) (v := (.pointer (some ⟨b, 0, none⟩))) rfl (by kernel_rfl) (by kernel_rfl) (by kernel_rfl) (fun _ _ _ h => h) rfl (by assumption) (fun w' hS' => by go_simp) ?_
  simp only [Act.put, List.setIfInBounds_toArray, List.set_cons_zero, List.set_cons_succ]
  refine takeL (i := 1) (v := (.pointer (some ⟨b, 0, none⟩))) rfl (by kernel_rfl) (by kernel_rfl) (by kernel_rfl) (fun _ _ _ h => h) rfl (by assumption) (fun w' hS' => by go_simp) ?_
  simp only [Act.put, List.setIfInBounds_toArray, List.set_cons_zero, List.set_cons_succ]
  refine takeL (i := 5) (v := (.slice (some ⟨n, 0, none⟩) 8 8)) rfl (by kernel_rfl) (by kernel_rfl) (by kernel_rfl) (fun _ _ _ h => h) rfl (by assumption) (fun w' hS' => by go_simp) ?_
  simp only [Act.put, List.setIfInBounds_toArray, List.set_cons_zero, List.set_cons_succ]
  refine takeL (i := 2) (v := (.pointer (some ⟨b, 0, none⟩))) rfl (by kernel_rfl) (by kernel_rfl) (by kernel_rfl) (fun _ _ _ h => h) rfl (by assumption) (fun w' hS' => by go_simp) ?_
  simp only [Act.put, List.setIfInBounds_toArray, List.set_cons_zero, List.set_cons_succ]
  refine takeL (i := 3) (v := (.pointer (some ⟨b, 0, none⟩))) rfl (by kernel_rfl) (by kernel_rfl) (by kernel_rfl) (fun _ _ _ h => h) rfl (by assumption) (fun w' hS' => by go_simp) ?_
  simp only [Act.put, List.setIfInBounds_toArray, List.set_cons_zero, List.set_cons_succ]
  refine oneL (i := 4) rfl (by kernel_rfl) rfl (wp_ran v (run_load_cell _ 34 _ (by rfl) ⟨b, 0, none⟩ (by rfl) v (cell_out kb) _ Tryd.underlying34 rfl) ⟨trivial, ?_⟩)
  simp only [Act.put, List.setIfInBounds_toArray, List.set_cons_zero, List.set_cons_succ]
  refine oneL (i := 6) rfl (by kernel_rfl) rfl (wp_app (.tmp 11) (.tmp 12) rfl (b + 1) l (numL m) v rfl kv (some ⟨n, 0, none⟩) 8 (by rw [numL_length]; rfl) (row_num_at kn) (by rw [numL_length]; omega) (by show b + 1 ≤ W1.heap.size; omega) (fun h => by cases h) hB1 (fun v1 W2 h1 b1 z1 => ⟨trivial, ?_⟩))
  obtain ⟨va1, c1, e1, _⟩ := own_form h1
  subst e1
  simp only [Act.put, List.setIfInBounds_toArray, List.set_cons_zero, List.set_cons_succ]
  have hS : True := trivial
  refine takeL (i := 7) (v := (.pointer (some ⟨b, 0, none⟩))) rfl (by kernel_rfl) (by kernel_rfl) (by kernel_rfl) (fun _ _ _ h => h) rfl (by assumption) (fun w' hS' => by go_simp) ?_
  simp only [Act.put, List.setIfInBounds_toArray, List.set_cons_zero, List.set_cons_succ]
  refine takeL (i := 8) (v := (.pointer (some ⟨b, 0, none⟩))) rfl (by kernel_rfl) (by kernel_rfl) (by kernel_rfl) (fun _ _ _ h => h) rfl (by assumption) (fun w' hS' => by go_simp) ?_
  simp only [Act.put, List.setIfInBounds_toArray, List.set_cons_zero, List.set_cons_succ]
  refine oneL (i := 9) rfl (by kernel_rfl) rfl (wp_store1 34 _ _ rfl b 0 rfl _ rfl rfl sz_bs _ _ ((b1.block b (by omega)).trans hb'.out) (by simp [outC]) (fun W3 hC3 hx3 => ⟨trivial, ?_⟩))
  refine wpAnyH_done (by kernel_rfl) ?_ _
  exact ret_none rfl rfl ⟨rfl, OutW.is hC3 (own_apart h1 hx3 (by omega)), hx3.below (b1.mono (by omega)) (Nat.le_refl _) (by omega)⟩
end Go.Proofs.YtihelknkcomjpaaDoor
namespace Go.Proofs.YtihelknkcomjpaaDoor
open Go.RowKit BigFrame
set_option maxRecDepth 100000
theorem out_cell {b : Nat} {v : Value} {w : World} (h : w.heap[b]? = some (.cells (outC v) 84 (0, 0))) (j : Nat) : w.cell? ⟨b, j, none⟩ = (outC v)[j]? := by
  rw [cell_of_row w b j _ _ _ h]
set_option maxHeartbeats 4000000 in
theorem out_done (b : Nat) (l : List Int) (w : World) (h : OutW b l w) (hlen : l.length ≤ 70368744177664) :
    Calls Tryd.prog 41 #[.pointer (some ⟨b, 0, none⟩)] w fun e w' => (∃ va c, e = .returned (.tuple #[.slice va l.length c, .int .i64 0]) ∧ (va = none → c = 0) ∧ OwnB (b + 1) (.slice va l.length c) l w') ∧ Below b w w' := by
  have hz := h.size
  obtain ⟨v, hb, hv⟩ := h
  obtain ⟨va, c, e, hva⟩ := own_form hv
  subst e
  have hb' := Lib.hid hb
  have hv' := Lib.hid hv
  have hva' := Lib.hid hva
  clear hb hv hva
  go_enter Tryd.func41, Tryd.ntmps41
  go_wp2_with (first
    | ((with_reducible refine at_load 36 ?_); refine wpList_value (by rfl) _ (run_load_cell _ 36 _ (by rfl) ⟨b, 4, none⟩ (by rfl) (.int .i64 0) (out_cell hb'.out 4) _ Tryd.underlying36 rfl) ?_)
    | ((with_reducible refine at_load 82 ?_); refine wpList_value (by rfl) _ (run_load_cell _ 82 _ (by rfl) ⟨b, 2, none⟩ (by rfl) (.slice none 0 0) (out_cell hb'.out 2) _ Tryd.underlying82 rfl) ?_))
  refine wp_loop_once ?_
  go_wp2
  rename_i K hK
  refine wp_region_held (S := fun w' => w'.heap[b]? = some (.cells (outC (.slice va l.length c)) 84 (0, 0))) (by kernel_rfl) ?_
  have hS : ({ w with drawn := w.drawn + 1 } : World).heap[b]? = some (.cells (outC (.slice va l.length c)) 84 (0, 0)) := hb'.out
  have hB1 : Below (b + 1) w { w with drawn := w.drawn + 1 } := (Below.refl _ _).drew
  refine takeL (i := 0) (v := (.pointer (some ⟨b, 0, none⟩))) rfl (by kernel_rfl) (by kernel_rfl) (by kernel_rfl) (fun _ _ _ h => h) rfl (by assumption) (fun w' hS' => by go_simp) ?_
  simp only [Act.put, List.setIfInBounds_toArray, List.set_cons_zero, List.set_cons_succ]
  refine takeL (i := 4) (v := (.pointer (some ⟨b, 0, none⟩))) rfl (by kernel_rfl) (by kernel_rfl) (by kernel_rfl) (fun _ _ _ h => h) rfl (by assumption) (fun w' hS' => by go_simp) ?_
  simp only [Act.put, List.setIfInBounds_toArray, List.set_cons_zero, List.set_cons_succ]
  refine takeL (i := 1) (v := (.pointer (some ⟨b, 0, none⟩))) rfl (by kernel_rfl) (by kernel_rfl) (by kernel_rfl) (fun _ _ _ h => h) rfl (by assumption) (fun w' hS' => by go_simp) ?_
  simp only [Act.put, List.setIfInBounds_toArray, List.set_cons_zero, List.set_cons_succ]
  refine takeL (i := 5) (v := (.pointer (some ⟨b, 0, none⟩))) rfl (by kernel_rfl) (by kernel_rfl) (by kernel_rfl) (fun _ _ _ h => h) rfl (by assumption) (fun w' hS' => by go_simp) ?_
  simp only [Act.put, List.setIfInBounds_toArray, List.set_cons_zero, List.set_cons_succ]
  refine takeL (i := 2) (v := (.pointer (some ⟨b, 0, none⟩))) rfl (by kernel_rfl) (by kernel_rfl) (by kernel_rfl) (fun _ _ _ h => h) rfl (by assumption) (fun w' hS' => by go_simp) ?_
  simp only [Act.put, List.setIfInBounds_toArray, List.set_cons_zero, List.set_cons_succ]
  refine takeL (i := 6) (v := (.pointer (some ⟨b, 1, none⟩))) rfl (by kernel_rfl) (by kernel_rfl) (by kernel_rfl) (fun _ _ _ h => h) rfl (by assumption) (fun w' hS' => by go_simp) ?_
  simp only [Act.put, List.setIfInBounds_toArray, List.set_cons_zero, List.set_cons_succ]
  refine takeL (i := 3) (v := (.slice va l.length c)) rfl (by kernel_rfl) (by kernel_rfl) (by kernel_rfl) (fun _ _ _ h => h) rfl (by assumption) (fun w' hS' => run_load_cell _ 34 _ (by rfl) ⟨b, 0, none⟩ (by rfl) _ (out_cell hS' 0) _ Tryd.underlying34 rfl) ?_
  simp only [Act.put, List.setIfInBounds_toArray, List.set_cons_zero, List.set_cons_succ]
  refine takeL (i := 7) (v := (.slice none 0 0)) rfl (by kernel_rfl) (by kernel_rfl) (by kernel_rfl) (fun _ _ _ h => h) rfl (by assumption) (fun w' hS' => run_load_cell _ 34 _ (by rfl) ⟨b, 1, none⟩ (by rfl) _ (out_cell hS' 1) _ Tryd.underlying34 rfl) ?_
  simp only [Act.put, List.setIfInBounds_toArray, List.set_cons_zero, List.set_cons_succ]
  refine oneL (i := 8) rfl (by kernel_rfl) rfl (wp_app (.tmp 61) (.tmp 65) rfl (b + 1) l [] _ rfl hv'.out none 0 rfl ⟨fun i hi => absurd hi (by simp), by simp⟩ (by simpa using hlen) hz (fun _ => rfl) hB1 (fun v1 W2 h1 b1 z1 => ⟨(b1.block b (by omega)).trans hb'.out, ?_⟩))
  rw [List.append_nil] at h1
  obtain ⟨va1, c1, e1, hv1⟩ := own_form h1
  subst e1
  simp only [Act.put, List.setIfInBounds_toArray, List.set_cons_zero, List.set_cons_succ]
  have hS : W2.heap[b]? = some (.cells (outC (.slice va l.length c)) 84 (0, 0)) := (b1.block b (by omega)).trans hb'.out
  refine takeL (i := 9) (v := (.slice va1 l.length c1)) rfl (by kernel_rfl) (by kernel_rfl) (by kernel_rfl) (fun _ _ _ h => h) rfl (by assumption) (fun w' hS' => by go_simp) ?_
  simp only [Act.put, List.setIfInBounds_toArray, List.set_cons_zero, List.set_cons_succ]
  refine takeL (i := 10) (v := (.int .i64 0)) rfl (by kernel_rfl) (by kernel_rfl) (by kernel_rfl) (fun _ _ _ h => h) rfl (by assumption) (fun w' hS' => by go_simp) ?_
  simp only [Act.put, List.setIfInBounds_toArray, List.set_cons_zero, List.set_cons_succ]
  refine wpAnyH_done (by kernel_rfl) ?_ _
  simp only [Exit.then]
  refine hK _ _ ?_
  go_wp2
  exact ret_t2 rfl _ _ rfl rfl rfl ⟨⟨_, _, rfl, hv1, h1⟩, b1.mono (by omega)⟩
set_option maxHeartbeats 4000000 in
theorem number_any (m : Int) (w : World) :
    Calls Tryd.prog 90 #[.int .u64 m] w fun e w' => (∃ va c, e = .returned (.slice va 8 c) ∧ (va = none → c = 0) ∧ OwnB w.heap.size (.slice va 8 c) (numL m) w') ∧ Below w.heap.size w w' := by
  have hm1 := Lib.hid (rbytes_any m w)
  go_enter Tryd.func90, Tryd.ntmps90
  go_wp2_with (first
    | ((with_reducible refine hm1.out.mono ?_)
       rintro e W ⟨rfl, hbW⟩
       have hbW' := Lib.hid hbW
       clear hbW)
    | ((with_reducible refine at_alloc 155 ?_); go_loud (refine wpList_alloc_store rfl rfl 155 3 _ rfl rfl rfl (numV m) rfl rfl (zeroOf Tryd.prog 155) (row_zero row_b8).1 (row_zero row_b8).2 (numV_one _) ?_)
       have hn := Lib.hid (heap_new W (numV m) 155 W.heap.size rfl)
       have hb1 := Lib.hid (hbW'.out.alloc hbW'.out.size (.cells (numV m) 155))
       have hsz := hb1.out.size)
    | ((with_reducible refine at_call_builtin .append ?_); go_loud (refine wpList_app rfl (.tmp 6) (.tmp 7) rfl w.heap.size [] (numL m) _ rfl (OwnB.new (Nat.le_trans hbW'.out.size (by simp)) [] (by decide) (heap_new _ _ _ _ (by simp))) (some ⟨W.heap.size, 0, none⟩) 8 (by rw [numL_length]; rfl) (row_num_at (heap_past _ _ _ _ hn.out)) (by simp [numL_length]) (Nat.le_trans hsz (by simp)) (fun h => by cases h) (hb1.out.alloc hsz _) ?_)
       intro v1 W1 h1 b1 z1
       obtain ⟨va1, c1, e1, hv1⟩ := own_form h1
       subst e1))
  exact ret_t1 rfl _ rfl rfl ⟨⟨va1, c1, by simp [numL_length], hv1, by simpa [numL_length] using h1⟩, b1⟩
end Go.Proofs.YtihelknkcomjpaaDoor
namespace Go.Proofs.YtihelknkcomjpaaDoor
open Go.RowKit BigFrame
set_option maxRecDepth 100000
def zeroR : Nat → Int := fun _ => 0
theorem zeroR_is : IsR zeroR := fun _ _ => ⟨by simp [zeroR], by simp [zeroR]⟩
/-- The root of a full tree of depth d over the leaves f. -/
def fullT : Nat → (Nat → Nat → Int) → Nat → Int
  | 0, f => f 0
  | d + 1, f => sha2 (fullT d f) (fullT d fun i => f (i + 2 ^ d))
def level (f : Nat → Nat → Int) : Nat → Nat → Int := fun i => sha2 (f (2 * i)) (f (2 * i + 1))
theorem fullT_level : ∀ (d : Nat) (f : Nat → Nat → Int), fullT (d + 1) f = fullT d (level f)
  | 0, f => rfl
  | d + 1, f => by
    have h1 := fullT_level d f
    have h2 := fullT_level d (fun i => f (i + 2 ^ (d + 1)))
    have h3 : level (fun i => f (i + 2 ^ (d + 1))) = fun i => level f (i + 2 ^ d) := by
      funext i
      have e : 2 * (i + 2 ^ d) = 2 * i + 2 ^ (d + 1) := by rw [Nat.pow_succ]; omega
      have e2 : 2 * i + 1 + 2 ^ (d + 1) = 2 * i + 2 ^ (d + 1) + 1 := by omega
      simp only [level, e, e2]
    show sha2 (fullT (d + 1) f) (fullT (d + 1) fun i => f (i + 2 ^ (d + 1))) = sha2 (fullT d (level f)) (fullT d fun i => level f (i + 2 ^ d))
    rw [h1, h2, h3]
theorem fullT_congr : ∀ (d : Nat) {f g : Nat → Nat → Int}, (∀ i, i < 2 ^ d → f i = g i) → fullT d f = fullT d g
  | 0, f, g, h => h 0 (by decide)
  | d + 1, f, g, h => by
    have hp := Nat.pow_succ 2 d
    rw [fullT, fullT, fullT_congr d (fun i hi => h i (by omega)), fullT_congr d (f := fun i => f (i + 2 ^ d)) (g := fun i => g (i + 2 ^ d)) (fun i hi => h _ (by omega))]
theorem fullT_is : ∀ (d : Nat) {f : Nat → Nat → Int}, (∀ i, IsR (f i)) → IsR (fullT d f)
  | 0, _, h => h 0
  | _ + 1, _, _ => sha2_is _ _
/-- The leaves: what is there, then zeros. -/
def leaf (rs : List (Nat → Int)) (i : Nat) : Nat → Int := rs.getD i zeroR
theorem leaf_is {rs : List (Nat → Int)} (h : ∀ r ∈ rs, IsR r) (i : Nat) : IsR (leaf rs i) := by
  unfold leaf
  by_cases c : i < rs.length
  · rw [List.getD, List.getElem?_eq_getElem c]; exact h _ (List.getElem_mem c)
  · rw [List.getD, List.getElem?_eq_none (Nat.le_of_not_lt c)]; exact zeroR_is
theorem leaf_pad (rs : List (Nat → Int)) (k : Nat) : leaf (rs ++ List.replicate k zeroR) = leaf rs := by
  funext i
  unfold leaf
  simp only [List.getD]
  by_cases c : i < rs.length
  · rw [List.getElem?_append_left c]
  · rw [List.getElem?_append_right (Nat.le_of_not_lt c), List.getElem?_eq_none (l := rs) (Nat.le_of_not_lt c)]
    by_cases c2 : i - rs.length < k
    · rw [List.getElem?_replicate, if_pos c2]; rfl
    · rw [List.getElem?_eq_none (by simpa using c2)]
/-- d is the depth of a tree for n leaves. -/
def Dep (n d : Nat) : Prop := n ≤ 2 ^ d ∧ (d = 0 ∨ 2 ^ (d - 1) < n)
theorem pow_of_and : ∀ (n : Nat), 1 ≤ n → n &&& (n - 1) = 0 → ∃ e, n = 2 ^ e := by
  intro n
  induction n using Nat.strongRecOn with
  | _ n ih =>
    intro h1 h
    by_cases h2 : n = 1
    · exact ⟨0, h2⟩
    rcases Nat.mod_two_eq_zero_or_one n with hm | hm
    · obtain ⟨m, rfl⟩ : ∃ m, n = 2 * m := ⟨n / 2, by omega⟩
      have hz : m &&& (m - 1) = 0 := by
        apply Nat.eq_of_testBit_eq
        intro i
        have := congrArg (fun x => x.testBit (i + 1)) h
        simp only [Nat.testBit_and, Nat.zero_testBit] at this ⊢
        rw [Nat.testBit_succ, Nat.testBit_succ] at this
        have e1 : 2 * m / 2 = m := by omega
        have e2 : (2 * m - 1) / 2 = m - 1 := by omega
        rwa [e1, e2] at this
      obtain ⟨e, he⟩ := ih m (by omega) (by omega) hz
      exact ⟨e + 1, by rw [Nat.pow_succ, he]; omega⟩
    · exfalso
      have hd : n / 2 ≠ 0 := by omega
      obtain ⟨i, hi⟩ := Nat.exists_testBit_of_ne_zero hd
      have := congrArg (fun x => x.testBit (i + 1)) h
      simp only [Nat.testBit_and, Nat.zero_testBit] at this
      rw [Nat.testBit_succ, Nat.testBit_succ] at this
      have e2 : (n - 1) / 2 = n / 2 := by omega
      rw [e2, hi] at this
      cases this
theorem Dep.pow {n d m : Nat} (h : Dep n d) (hn : 1 ≤ n) (hm : n ≤ m) (hm2 : m ≤ 2 ^ d) : m &&& (m - 1) = 0 ↔ m = 2 ^ d := by
  constructor
  · intro hz
    obtain ⟨e, rfl⟩ := pow_of_and m (by omega) hz
    congr 1
    rcases Nat.lt_or_ge e d with c | c
    · rcases h.2 with h0 | h0
      · omega
      · have := Nat.pow_le_pow_right (n := 2) (by decide) (show e ≤ d - 1 by omega)
        omega
    · rcases Nat.lt_or_ge d e with c2 | c2
      · have := Nat.pow_lt_pow_right (a := 2) (by decide) c2
        omega
      · omega
  · rintro rfl
    rw [Nat.and_two_pow_sub_one_eq_mod, Nat.mod_self]
theorem and_len (n : Nat) (h1 : 1 ≤ n) (h : n < 2199023255552) : bits .and .i64 (n : Int) ((n : Int) - 1) = ((n &&& (n - 1) : Nat) : Int) := by
  have e : (n : Int) - 1 = ((n - 1 : Nat) : Int) := by omega
  rw [e]
  exact (bits_nat .i64 41 (by decide) (fun m h0 h1 => by rw [IntKind.wrap_i64]; omega) n (n - 1) h (by omega)).1
end Go.Proofs.YtihelknkcomjpaaDoor
