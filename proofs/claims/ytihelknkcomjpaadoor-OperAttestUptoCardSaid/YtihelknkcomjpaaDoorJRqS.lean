/- What the program's readers keep while they go through the fields. -/
/- What the reference's readers keep while they go through the fields. -/
import Derived.Test.YtihelknkcomjpaaDoorJBoxR
set_option linter.unusedVariables false
set_option linter.unusedSimpArgs false
set_option linter.unnecessarySimpa false
namespace Go.Proofs.YtihelknkcomjpaaDoor
open Go.RowKit BigFrame
set_option maxRecDepth 100000
/-- A call whose answer is known but for some of it. -/
theorem wp_callE {P : Program} {o : Oper} {a : Act} {K : Act → World → Prop} {Q : Exit → Act → World → Prop} {w : World} (f : FuncId) (args : Array Value) (he : (execOp a.eval o).run P w = .ok (.enter f args) w) (R : Value → World → Prop)
    (hc : Calls P f args w fun e w' => ∃ v, e = .returned v ∧ R v w') (h : ∀ v w', R v w' → K (a.put o.dst v) w') : o.wp P a w K Q := by
  unfold Oper.wp
  rw [he]
  simp only [Oper.upon]
  exact hc.mono fun e w' ⟨v, h1, h2⟩ => by subst h1; exact h v w' h2
theorem fcells_congr {N : Nat} {kd : Nat → CK} {f g : Nat → Int} (h : ∀ k, k < N → f k = g k) : fcells N kd f = fcells N kd g := by
  unfold fcells
  refine List.map_congr_left fun j hj => ?_
  rw [h j (by simpa using hj)]
theorem fcells_ext {N : Nat} {kd : Nat → CK} {g : Nat → Int} {C : Array Value} (hs : C.size = N) (h : ∀ j, j < N → C[j]? = some ((kd j).mk (g j))) : C = (fcells N kd g).toArray := cells_eq hs h
structure RdS (n N : Nat) (kd : Nat → CK) (t : TypeId) (l : List Int) (va : Option Addr) (c p err m : Nat) (r : Nat → Int) (w W : World) : Prop where
  hR : W.heap[n]? = some (.cells (fcells N kd fun _ => 0).toArray t (0, 0))
  hX : ∃ g, W.heap[n + 1]? = some (.cells (fcells N kd g).toArray t (0, 0)) ∧ (err = 0 → ∀ k, k < m → g k = r k)
  hI : ∃ at', InW (n + 1 + 1) l va c at' err W ∧ (err = 0 → at' = p)
  hB : Below n w W
  hva : ∀ ad, va = some ad → ad.block < n
section
variable {n N : Nat} {kd : Nat → CK} {t : TypeId} {l : List Int} {va : Option Addr} {c p err m : Nat} {r : Nat → Int} {w W W' : World}
theorem RdS.size (h : RdS n N kd t l va c p err m r w W) : n + 3 ≤ W.heap.size := by
  obtain ⟨at', hI, _⟩ := h.hI
  have := hI.size
  omega
theorem RdS.step {p' err' : Nat} (h : RdS n N kd t l va c p err m r w W) (hb : Below (n + 1 + 1) W W') (hI : ∃ at', InW (n + 1 + 1) l va c at' err' W' ∧ (err' = 0 → at' = p')) (he : err' = 0 → err = 0) : RdS n N kd t l va c p' err' m r w W' := by
  obtain ⟨g, h1, h2⟩ := h.hX
  exact ⟨(hb.block n (by omega)).trans h.hR, ⟨g, (hb.block (n + 1) (by omega)).trans h1, fun e => h2 (he e)⟩, hI, h.hB.trans (hb.mono (by omega)), h.hva⟩
theorem RdS.later (h : RdS n N kd t l va c p err m r w W) (hb : Below W.heap.size W W') : RdS n N kd t l va c p err m r w W' := by
  obtain ⟨at', hI, hp⟩ := h.hI
  have hs := h.size
  exact h.step (hb.mono (by omega)) ⟨at', hI.later (hb.mono (by omega)), hp⟩ id
theorem RdS.any {m' : Nat} (h : RdS n N kd t l va c p err m r w W) (he : err ≠ 0) : RdS n N kd t l va c p err m' r w W := by
  obtain ⟨g, h1, _⟩ := h.hX
  exact ⟨h.hR, ⟨g, h1, fun e => absurd e he⟩, h.hI, h.hB, h.hva⟩
theorem RdS.drew (h : RdS n N kd t l va c p err m r w W) (k : Nat) : RdS n N kd t l va c p err m r w { W with drawn := k } := h.later ⟨rfl, rfl, rfl, Nat.le_refl _, fun _ _ => rfl⟩
theorem RdS.u64 (h : RdS n N kd t l va c p err m r w W) (hat : err = 0 → p + 8 ≤ l.length) :
    Calls Tryd.prog 96 #[.pointer (some ⟨n + 1 + 1, 0, none⟩)] W fun e w' => ∃ v, e = .returned (.int .u64 v) ∧ (err = 0 → v = inN l p 0) ∧ RdS n N kd t l va c (p + 8) err m r w w' := by
  obtain ⟨at', hI, hp⟩ := h.hI
  refine (in_u64 (n + 1 + 1) l va c at' err W hI (fun e => by rw [hp e]; exact hat e)).mono fun _ _ ⟨h1, h2, h3⟩ => ⟨_, h1, fun e => by rw [hp e, e], h.step h3 ⟨_, h2, fun e => by rw [if_pos e, hp e]⟩ id⟩
theorem RdS.bytesC (h : RdS n N kd t l va c p err m r w W) (k : Nat) (x : Int) (hx : x = (k : Int)) (hk : 0 < k) (hk2 : k ≤ 100000) (hat : err = 0 → p + k ≤ l.length) :
    Calls Tryd.prog 50 #[.pointer (some ⟨n + 1 + 1, 0, none⟩), .int .i64 x] W fun e w' => ∃ b o c' q, e = .returned (.slice (some ⟨b, o, none⟩) k c') ∧ k ≤ c' ∧ b < w'.heap.size ∧ Row w' (some ⟨b, o, none⟩) .u8 q ∧ q.length = k ∧ (err = 0 → q = (l.drop p).take k) ∧ RdS n N kd t l va c (p + k) err m r w w' := by
  subst hx
  obtain ⟨at', hI, hp⟩ := h.hI
  have hl := inB_length (l := l) (at' := at') (err := err) (n := k) (fun e => by rw [hp e]; exact hat e)
  refine (in_bytes (n + 1 + 1) l va c at' err k W hI hk (by omega) (fun e => by rw [hp e]; exact hat e)).mono fun _ W' ⟨⟨va', c', h1, h2, h3, h4⟩, h5, h6⟩ => ?_
  obtain ⟨b, o, e, hc⟩ := h4.cell 0 (by omega)
  subst e
  exact ⟨b, o, c', _, h1, h2, block_lt_of_cell hc, h4, hl, fun e => by unfold inB; rw [if_pos e, hp e], h.step h6 ⟨_, h5, fun e => by rw [if_pos e, hp e]⟩ id⟩
theorem RdS.fail0 (h : RdS n N kd t l va c p 0 m r w W) :
    Calls Tryd.prog 52 #[.pointer (some ⟨n + 1 + 1, 0, none⟩), .int .i64 0] W fun e w' => e = .returned (.tuple #[]) ∧ RdS n N kd t l va c p 0 m r w w' := by
  obtain ⟨at', hI, hp⟩ := h.hI
  exact (in_fail (n + 1 + 1) l va c at' 0 0 W hI).mono fun _ _ ⟨h1, h2, h3⟩ => ⟨h1, h.step h3 ⟨_, h2, hp⟩ id⟩
theorem RdS.errno (h : RdS n N kd t l va c p err m r w W) : W.cell? ⟨n + 1 + 1, 4, none⟩ = some (.int .i64 (err : Int)) := by
  obtain ⟨at', hI, _⟩ := h.hI
  exact cell_in hI.cells 4
theorem RdS.res (h : RdS n N kd t l va c p 0 N r w W) : W.heap[n + 1]? = some (.cells (fcells N kd r).toArray t (0, 0)) := by
  obtain ⟨g, h1, h2⟩ := h.hX
  rw [← fcells_congr (kd := kd) (h2 rfl)]
  exact h1
/-- The state behind a change of the struct's box alone. -/
theorem RdS.box {m' : Nat} (h : RdS n N kd t l va c p err m r w W) (hx : Apart (n + 1) W W') (g : Nat → Int) (h1 : W'.heap[n + 1]? = some (.cells (fcells N kd g).toArray t (0, 0))) (h2 : err = 0 → ∀ k, k < m' → g k = r k) : RdS n N kd t l va c p err m' r w W' := by
  obtain ⟨at', hI, hp⟩ := h.hI
  have hs := h.size
  refine ⟨(hx.block n (by omega) (by omega)).trans h.hR, ⟨g, h1, h2⟩, ⟨at', ⟨(hx.block _ (by omega) (by omega)).trans hI.cells, ⟨fun j hj => ?_, hI.row.ok⟩, hI.low, hI.cap, hI.nil, hI.few⟩, hp⟩, hx.below h.hB (by omega) (by omega), h.hva⟩
  obtain ⟨b, o, e, hc⟩ := hI.row.cell j hj
  refine ⟨b, o, e, ?_⟩
  by_cases eb : b = n + 1
  · exfalso
    have := h.hva _ e
    simp only at this
    omega
  · exact (World.cell?_of_block (w := W) (hx.block b (block_lt_of_cell hc) eb)).trans hc
/-- One cell is stored. -/
theorem wpList_rd1 {ops : Array Oper} {rest : List Oper} {o : Oper} {a : Act} {Q : Exit → Act → World → Prop} (hg : o.guard = none) (ty : TypeId) (x y : Operand) (ho : o.op = .store ty x y) (off : Nat) (hx : a.eval x = .pointer (some ⟨n + 1, off, none⟩)) (u : Value) (hy : a.eval y = u) (v : Int) (hu : u = (kd off).mk v) (hz : (Tryd.prog.info? ty).map (·.size) = some 1)
    (h : RdS n N kd t l va c p err m r w W) (hm : m = off) (hN : off < N) (hr : err = 0 → v = r off) (hk : ∀ W', RdS n N kd t l va c p err (off + 1) r w W' → wpList Tryd.prog ops Q rest (a.put o.dst undef) W') : wpList Tryd.prog ops Q (o :: rest) a W := by
  obtain ⟨g, h1, h2⟩ := h.hX
  subst hu
  subst hm
  refine wpList_plain hg fun K hK => wp_store1 ty x y ho (n + 1) m hx _ hy (by cases kd m <;> rfl) hz _ t h1 (by simp [fcells]; exact hN) (fun W' hC hA => hK _ _ (hk W' ?_))
  refine h.box hA (fun k => if k = m then v else g k) ?_ (fun e k hk => ?_)
  · rw [hC]
    congr 2
    refine fcells_ext (by simp [fcells]) fun j hj => ?_
    rw [Array.getElem?_setIfInBounds]
    by_cases e : m = j
    · subst e
      simp [fcells, hN]
    · rw [if_neg e, if_neg (fun e2 => e e2.symm), List.getElem?_toArray, fcells_get _ _ _ _ hj]
  · by_cases e2 : k = m
    · rw [if_pos e2, e2]; exact hr e
    · rw [if_neg e2]; exact h2 e k (by omega)
theorem splice_f {N off k : Nat} {kd : Nat → CK} {g h : Nat → Int} {kd' : Nat → CK} (hk : ∀ j, j < k → kd (off + j) = kd' j) (hN : off + k ≤ N) : (splice (fcells N kd g) off (fcells k kd' h)).toArray = (fcells N kd fun i => if off ≤ i ∧ i < off + k then h (i - off) else g i).toArray := by
  have hl : off + (fcells k kd' h).length ≤ (fcells N kd g).length := by rw [fcells_length, fcells_length]; exact hN
  refine fcells_ext (by rw [List.size_toArray, splice_length hl, fcells_length]) fun j hj => ?_
  rw [List.getElem?_toArray, splice_get hl, fcells_length]
  by_cases c1 : j < off
  · rw [if_pos c1, if_neg (by omega), fcells_get _ _ _ _ hj]
  · rw [if_neg c1]
    by_cases c2 : j < off + k
    · rw [if_pos c2, if_pos (by omega), fcells_get _ _ _ _ (by omega), ← hk (j - off) (by omega), show off + (j - off) = j by omega]
    · rw [if_neg c2, if_neg (by omega), fcells_get _ _ _ _ hj]
/-- Bytes are copied into a field. -/
theorem wp_copy_rd {o : Oper} {a : Act} {K : Act → World → Prop} {Q : Exit → Act → World → Prop} (d s : Operand) (ho : o.op = .call { callee := .builtin .copy, args := #[d, s], argTypes := #[34, 34] }) (off k b bo c' dCap : Nat) (hd : a.eval d = .slice (some ⟨n + 1, off, none⟩) k dCap) (hs : a.eval s = .slice (some ⟨b, bo, none⟩) k c')
    (h : RdS n N kd t l va c p err m r w W) (q : List Int) (hq : Row W (some ⟨b, bo, none⟩) .u8 q) (hql : q.length = k) (hm : m = off) (hkd : ∀ j, j < k → kd (off + j) = .u8) (hN : off + k ≤ N) (hr : err = 0 → ∀ j, j < k → q.getD j 0 = r (off + j))
    (h2 : ∀ W', RdS n N kd t l va c p err (off + k) r w W' → K (a.put o.dst (goInt k)) W') : o.wp Tryd.prog a W K Q := by
  obtain ⟨g, h1, h3⟩ := h.hX
  have hcs : (fcells k (fun _ => .u8) fun j => q.getD j 0).length = k := fcells_length _ _ _
  refine wp_copy_gen d s 34 34 ho 5 Tryd.underlying34 sz_u8 (n + 1) off b bo k dCap k c' hd hs _ t h1 (fcells k (fun _ => .u8) fun j => q.getD j 0) (by rw [hcs]; exact (Nat.min_self k).symm) (fun j v hv => ?_) (by rw [hcs]; simp [fcells]; exact hN) fcells_mem (fun W' hC hA => ?_)
  · have hj : j < k := by have := (List.getElem?_eq_some_iff.1 hv).1; rwa [hcs] at this
    obtain ⟨b', o', e, hc⟩ := hq.cell j (by omega)
    cases e
    rw [fcells_get _ _ _ _ hj] at hv
    rw [hc]
    exact hv
  · rw [hcs]
    have e2 : (splice (fcells N kd g).toArray.toList off (fcells k (fun _ => .u8) fun j => q.getD j 0)).toArray = _ := splice_f (kd' := fun _ => .u8) hkd hN
    rw [e2] at hC
    refine h2 W' (h.box hA _ hC fun e i hi => ?_)
    by_cases c1 : off ≤ i ∧ i < off + k
    · rw [if_pos c1, hr e (i - off) (by omega), show off + (i - off) = i by omega]
    · rw [if_neg c1]; exact h3 e i (by omega)
theorem setCells_list (b : Nat) : ∀ (vs : List Value) (o : Nat) (w : World) (C : Array Value) (t : TypeId), w.heap[b]? = some (.cells C t (0, 0)) → o + vs.length ≤ C.size → (w.setCells b o vs).heap[b]? = some (.cells (splice C.toList o vs).toArray t (0, 0)) := fun vs o w C t h hl => by
  obtain ⟨C', h1, h2⟩ := splice_setCells b vs o w C t h
  have ht : w.there b o vs.length := fun j hj => by
    refine ⟨?_, Joins.unfrozen_of_block h _⟩
    rw [cell_of_row w b _ C _ _ h, Array.getElem?_eq_getElem (by omega)]
    rfl
  have hs := World.rangeAt_setCells_same w b o vs ht
  have hl' : o + vs.length ≤ C.toList.length := by simpa using hl
  rw [h1]
  congr 2
  apply Array.ext'
  apply List.ext_getElem?
  intro i
  show C'.toList[i]? = (splice C.toList o vs)[i]?
  rw [splice_get hl', Array.getElem?_toList, ← cell_of_row _ b i C' _ _ h1]
  by_cases c1 : i < o
  · rw [if_pos c1, World.cell?_setCells_out b vs o w ⟨b, i, none⟩ (fun _ _ => by simp only; omega), cell_of_row w b i C _ _ h]
    simp
  · rw [if_neg c1]
    by_cases c2 : i < o + vs.length
    · rw [if_pos c2]
      have hv : vs[i - o]? = some (vs[i - o]'(by omega)) := List.getElem?_eq_getElem (by omega)
      have := hs (i - o) _ hv
      rw [show o + (i - o) = i by omega] at this
      rw [this, hv]
    · rw [if_neg c2, World.cell?_setCells_out b vs o w ⟨b, i, none⟩ (fun _ _ => by simp only; omega), cell_of_row w b i C _ _ h]
      simp
/-- A struct is stored into a field. -/
theorem wpList_rdrows {ops : Array Oper} {rest : List Oper} {o : Oper} {a : Act} {Q : Exit → Act → World → Prop} (hg : o.guard = none) (ty : TypeId) (x y : Operand) (ho : o.op = .store ty x y) (off k : Nat) (hx : a.eval x = .pointer (some ⟨n + 1, off, none⟩)) (kd' : Nat → CK) (f : Nat → Int) (hy : a.eval y = .agg (fcells k kd' f).toArray) (hz : (Tryd.prog.info? ty).map (·.size) = some k)
    (h : RdS n N kd t l va c p err m r w W) (hm : m = off) (hkd : ∀ j, j < k → kd (off + j) = kd' j) (hN : off + k ≤ N) (hr : err = 0 → ∀ j, j < k → f j = r (off + j)) (hk : ∀ W', RdS n N kd t l va c p err (off + k) r w W' → wpList Tryd.prog ops Q rest (a.put o.dst undef) W') : wpList Tryd.prog ops Q (o :: rest) a W := by
  obtain ⟨g, h1, h3⟩ := h.hX
  have hcs : (fcells k kd' f).length = k := fcells_length _ _ _
  have ht : W.there (n + 1) off (fcells k kd' f).toArray.size := fun j hj => by
    have hj : j < k := by simpa [fcells] using hj
    refine ⟨?_, Joins.unfrozen_of_block h1 _⟩
    rw [cell_of_row W (n + 1) _ _ _ _ h1, List.getElem?_toArray, fcells_get _ _ _ _ (by omega)]
    rfl
  refine wpList_plain hg fun Kc hKc => wp_store_mid ty x y ho (n + 1) off _ hx hy ht (by rw [hz]; simp [fcells]) (fcells_one _ _ _) (hKc _ _ (hk _ ?_))
  have hA : Apart (n + 1) W (W.setCells (n + 1) off (fcells k kd' f).toArray.toList) := (Apart.refl _ _).setCells _ _ _ (Or.inl rfl)
  have hC := setCells_list (n + 1) (fcells k kd' f).toArray.toList off W _ t h1 (by simp [fcells]; exact hN)
  have e2 : (splice (fcells N kd g).toArray.toList off (fcells k kd' f).toArray.toList).toArray = _ := splice_f hkd hN
  rw [e2] at hC
  refine h.box hA _ hC fun e i hi => ?_
  by_cases c1 : off ≤ i ∧ i < off + k
  · rw [if_pos c1, hr e (i - off) (by omega), show off + (i - off) = i by omega]
  · rw [if_neg c1]; exact h3 e i (by omega)
theorem RdS.begin {Z : Array Value} (hZ : Z = (fcells N kd fun _ => 0).toArray) (hb : Below (((w.alloc (.cells Z t)).alloc (.cells Z t))).heap.size ((w.alloc (.cells Z t)).alloc (.cells Z t)) W) (hn : w.heap.size = n) (hva : ∀ ad, va = some ad → ad.block < n) (hI : InW (n + 1 + 1) l va c 0 err W) : RdS n N kd t l va c 0 err 0 r w W := by
  subst hZ
  subst hn
  have hb2 : Below w.heap.size w ((w.alloc (.cells (fcells N kd fun _ => 0).toArray t)).alloc (.cells (fcells N kd fun _ => 0).toArray t)) := ((Below.refl _ _).alloc (Nat.le_refl _) _).alloc (by simp) _
  refine ⟨(hb.block _ (by simp; omega)).trans (heap_past _ _ _ _ (heap_new _ _ _ _ rfl)), ⟨_, (hb.block _ (by simp)).trans (heap_new _ _ _ _ (by simp)), fun _ k hk => by omega⟩, ⟨0, hI, fun _ => rfl⟩, hb2.trans (hb.mono (by simp; omega)), hva⟩
theorem RdS.bytesE (h : RdS n N kd t l va c p err m r w W) (k : Nat) (x : Int) (hx : x = (k : Int)) (hk : 0 < k) (hk2 : k ≤ 100000) (hat : err = 0 → p + k ≤ l.length) :
    Calls Tryd.prog 50 #[.pointer (some ⟨n + 1 + 1, 0, none⟩), .int .i64 x] W fun e w' => ∃ v, e = .returned v ∧ ∃ b o c' q, v = .slice (some ⟨b, o, none⟩) k c' ∧ k ≤ c' ∧ b < w'.heap.size ∧ Row w' (some ⟨b, o, none⟩) .u8 q ∧ q.length = k ∧ (err = 0 → q = (l.drop p).take k) ∧ RdS n N kd t l va c (p + k) err m r w w' :=
  (h.bytesC k x hx hk hk2 hat).mono fun _ _ ⟨b, o, c', q, h1, h2⟩ => ⟨_, h1, b, o, c', q, rfl, h2⟩
theorem RdS.open {Z : Array Value} (hZ : Z = (fcells N kd fun _ => 0).toArray) (k hd : Nat) (x : Int) (hx : x = (hd : Int)) (hk : l.length = k) (he : (if k = hd then 0 else 4) = err) (hhd : hd ≤ 1000000) (hl : Row w va .u8 l) (hc : l.length ≤ c) (hn : va = none → c = 0) (hlow2 : ∀ ad, va = some ad → ad.block < w.heap.size) (hfew : l.length ≤ 70368744177664) :
    Calls Tryd.prog 49 #[.slice va k c, .int .i64 x, .int .i64 0] ((w.alloc (.cells Z t)).alloc (.cells Z t)) fun e w' => e = .returned (.pointer (some ⟨w.heap.size + 1 + 1, 0, none⟩)) ∧ RdS w.heap.size N kd t l va c 0 err 0 r w w' := by
  subst hx
  subst hk
  subst he
  have hb : Below w.heap.size w ((w.alloc (.cells Z t)).alloc (.cells Z t)) := ((Below.refl _ _).alloc (Nat.le_refl _) _).alloc (by simp) _
  refine (open_any l va c hd _ (hl.later hb) hc hn (fun ad e => Nat.lt_of_lt_of_le (hlow2 ad e) hb.size) hhd hfew).mono fun _ _ ⟨h1, h2, h3⟩ => ⟨by rw [h1]; simp, RdS.begin hZ h3 rfl hlow2 (by simpa using h2)⟩
theorem drop_take_get (l : List Int) (p k j : Nat) (h : j < k) : ((l.drop p).take k).getD j 0 = l.getD (p + j) 0 := by
  simp only [List.getD, List.getElem?_take, if_pos h, List.getElem?_drop]
end
theorem sz_u64 : (Tryd.prog.info? 27).map (·.size) = some 1 := by kernel_rfl
theorem sz_bool : (Tryd.prog.info? 4).map (·.size) = some 1 := by kernel_rfl
end Go.Proofs.YtihelknkcomjpaaDoor
namespace Go.Proofs.YtihelknkcomjpaaDoor
open Go.RowKit BigFrame
set_option maxRecDepth 100000
/-- The result's box is still zero; the struct's first m cells are read. -/
structure RqB (n N : Nat) (kd : Nat → CK) (t : TypeId) (m : Nat) (r : Nat → Int) (w W : World) : Prop where
  hR : W.heap[n]? = some (.cells (fcells N kd fun _ => 0).toArray t (0, 0))
  hX : ∃ g, W.heap[n + 1]? = some (.cells (fcells N kd g).toArray t (0, 0)) ∧ ∀ k, k < m → g k = r k
  hB : Below n w W
structure RqS (n N : Nat) (kd : Nat → CK) (t : TypeId) (m : Nat) (r : Nat → Int) (gp cp : Nat) (ps : List (List Int)) (w W : World) : Prop extends RqB n N kd t m r w W where
  hP : PartsV (n + 1 + 1) (.slice (some ⟨gp, 0, none⟩) ps.length cp) ps W
section
variable {n N : Nat} {kd : Nat → CK} {t : TypeId} {m : Nat} {r : Nat → Int} {gp cp : Nat} {ps : List (List Int)} {w W W' : World}
theorem RqB.size (h : RqB n N kd t m r w W) : n + 2 ≤ W.heap.size := by
  obtain ⟨g, h1, _⟩ := h.hX
  have := block_lt h1
  omega
theorem RqB.later (h : RqB n N kd t m r w W) (hb : Below W.heap.size W W') : RqB n N kd t m r w W' := by
  have hs := h.size
  obtain ⟨g, h1, h2⟩ := h.hX
  exact ⟨(hb.block n (by omega)).trans h.hR, ⟨g, (hb.block (n + 1) (by omega)).trans h1, h2⟩, h.hB.trans (hb.mono (by omega))⟩
theorem PartsV.move {b k : Nat} {v : Value} (h : PartsV b v ps W) (hx : Apart k W W') (hk : k < b) : PartsV b v ps W' := by
  obtain ⟨g, c, e, hg, hgs, h2⟩ := h
  refine ⟨g, c, e, hg, Nat.lt_of_lt_of_le hgs hx.size, fun i hi => ?_⟩
  obtain ⟨va, ci, h3, h4, h5, h6, h7⟩ := h2 i hi
  refine ⟨va, ci, (World.cell?_of_block (w := W) (hx.block g hgs (by omega))).trans h3, ⟨fun j hj => ?_, h4.ok⟩, h5, h6, fun b o e => ⟨(h7 b o e).1, Nat.lt_of_lt_of_le (h7 b o e).2 hx.size⟩⟩
  obtain ⟨b', o', e2, hc⟩ := h4.cell j hj
  have := h7 b' o' e2
  exact ⟨b', o', e2, (World.cell?_of_block (w := W) (hx.block b' this.2 (by omega))).trans hc⟩
theorem PartsV.later {b : Nat} {v : Value} (h : PartsV b v ps W) (hb : Below W.heap.size W W') : PartsV b v ps W' := by
  obtain ⟨g, c, e, hg, hgs, h2⟩ := h
  refine ⟨g, c, e, hg, Nat.lt_of_lt_of_le hgs hb.size, fun i hi => ?_⟩
  obtain ⟨va, ci, h3, h4, h5, h6, h7⟩ := h2 i hi
  exact ⟨va, ci, (hb.cell (p := ⟨g, i, none⟩) hgs).trans h3, h4.later hb, h5, h6, fun b o e => ⟨(h7 b o e).1, Nat.lt_of_lt_of_le (h7 b o e).2 hb.size⟩⟩
theorem RqS.later (h : RqS n N kd t m r gp cp ps w W) (hb : Below W.heap.size W W') : RqS n N kd t m r gp cp ps w W' := ⟨h.toRqB.later hb, h.hP.later hb⟩
theorem RqS.part (h : RqS n N kd t m r gp cp ps w W) (i k : Nat) (q : List Int) (hi : i < ps.length) (hq : ps.getD i [] = q) (hk : q.length = k) : ∃ va ci, W.cell? ⟨gp, i, none⟩ = some (.slice va k ci) ∧ SlB va ci q W := by
  obtain ⟨g, c, e, hg, hgs, h2⟩ := h.hP
  injection e with e1 e2 e3
  cases e1
  obtain ⟨va, ci, h3, h4, h5, h6, h7⟩ := h2 i hi
  rw [hq] at h3 h4 h6
  rw [hk] at h3
  exact ⟨va, ci, h3, h4, h5, h6, fun b o e => (h7 b o e).2⟩
theorem RqS.box {m' : Nat} (h : RqS n N kd t m r gp cp ps w W) (hx : Apart (n + 1) W W') (g : Nat → Int) (h1 : W'.heap[n + 1]? = some (.cells (fcells N kd g).toArray t (0, 0))) (h2 : ∀ k, k < m' → g k = r k) : RqS n N kd t m' r gp cp ps w W' := by
  have hs := h.size
  exact ⟨⟨(hx.block n (by omega) (by omega)).trans h.hR, ⟨g, h1, h2⟩, hx.below h.hB (by omega) (by omega)⟩, h.hP.move hx (by omega)⟩
theorem RqB.res (h : RqB n N kd t N r w W) : W.heap[n + 1]? = some (.cells (fcells N kd r).toArray t (0, 0)) := by
  obtain ⟨g, h1, h2⟩ := h.hX
  rw [← fcells_congr (kd := kd) h2]
  exact h1
/-- One cell is stored. -/
theorem wpList_rq1 {ops : Array Oper} {rest : List Oper} {o : Oper} {a : Act} {Q : Exit → Act → World → Prop} (hg : o.guard = none) (ty : TypeId) (x y : Operand) (ho : o.op = .store ty x y) (off : Nat) (hx : a.eval x = .pointer (some ⟨n + 1, off, none⟩)) (u : Value) (hy : a.eval y = u) (v : Int) (hu : u = (kd off).mk v) (hz : (Tryd.prog.info? ty).map (·.size) = some 1)
    (h : RqS n N kd t m r gp cp ps w W) (hm : m = off) (hN : off < N) (hr : v = r off) (hk : ∀ W', RqS n N kd t (off + 1) r gp cp ps w W' → wpList Tryd.prog ops Q rest (a.put o.dst undef) W') : wpList Tryd.prog ops Q (o :: rest) a W := by
  obtain ⟨g, h1, h2⟩ := h.hX
  subst hu
  subst hm
  refine wpList_plain hg fun K hK => wp_store1 ty x y ho (n + 1) m hx _ hy (by cases kd m <;> rfl) hz _ t h1 (by simp [fcells]; exact hN) (fun W' hC hA => hK _ _ (hk W' ?_))
  refine h.box hA (fun k => if k = m then v else g k) ?_ (fun k hk => ?_)
  · rw [hC]
    congr 2
    refine fcells_ext (by simp [fcells]) fun j hj => ?_
    rw [Array.getElem?_setIfInBounds]
    by_cases e : m = j
    · subst e
      simp [fcells, hN]
    · rw [if_neg e, if_neg (fun e2 => e e2.symm), List.getElem?_toArray, fcells_get _ _ _ _ hj]
  · by_cases e2 : k = m
    · rw [if_pos e2, e2]; exact hr
    · rw [if_neg e2]; exact h2 k (by omega)
/-- A struct is stored into a field. -/
theorem wpList_rqrows {ops : Array Oper} {rest : List Oper} {o : Oper} {a : Act} {Q : Exit → Act → World → Prop} (hg : o.guard = none) (ty : TypeId) (x y : Operand) (ho : o.op = .store ty x y) (off k : Nat) (hx : a.eval x = .pointer (some ⟨n + 1, off, none⟩)) (kd' : Nat → CK) (f : Nat → Int) (hy : a.eval y = .agg (fcells k kd' f).toArray) (hz : (Tryd.prog.info? ty).map (·.size) = some k)
    (h : RqS n N kd t m r gp cp ps w W) (hm : m = off) (hkd : ∀ j, j < k → kd (off + j) = kd' j) (hN : off + k ≤ N) (hr : ∀ j, j < k → f j = r (off + j)) (hk : ∀ W', RqS n N kd t (off + k) r gp cp ps w W' → wpList Tryd.prog ops Q rest (a.put o.dst undef) W') : wpList Tryd.prog ops Q (o :: rest) a W := by
  obtain ⟨g, h1, h3⟩ := h.hX
  have ht : W.there (n + 1) off (fcells k kd' f).toArray.size := fun j hj => by
    have hj : j < k := by simpa [fcells] using hj
    refine ⟨?_, Joins.unfrozen_of_block h1 _⟩
    rw [cell_of_row W (n + 1) _ _ _ _ h1, List.getElem?_toArray, fcells_get _ _ _ _ (by omega)]
    rfl
  refine wpList_plain hg fun Kc hKc => wp_store_mid ty x y ho (n + 1) off _ hx hy ht (by rw [hz]; simp [fcells]) (fcells_one _ _ _) (hKc _ _ (hk _ ?_))
  have hA : Apart (n + 1) W (W.setCells (n + 1) off (fcells k kd' f).toArray.toList) := (Apart.refl _ _).setCells _ _ _ (Or.inl rfl)
  have hC := setCells_list (n + 1) (fcells k kd' f).toArray.toList off W _ t h1 (by simp [fcells]; exact hN)
  have e2 : (splice (fcells N kd g).toArray.toList off (fcells k kd' f).toArray.toList).toArray = _ := splice_f hkd hN
  rw [e2] at hC
  refine h.box hA _ hC fun i hi => ?_
  by_cases c1 : off ≤ i ∧ i < off + k
  · rw [if_pos c1, hr (i - off) (by omega), show off + (i - off) = i by omega]
  · rw [if_neg c1]; exact h3 i (by omega)
theorem RqB.begin {Z : Array Value} (hZ : Z = (fcells N kd fun _ => 0).toArray) (hn : w.heap.size = n) : RqB n N kd t 0 r w ((w.alloc (.cells Z t)).alloc (.cells Z t)) := by
  subst hZ
  subst hn
  exact ⟨heap_past _ _ _ _ (heap_new _ _ _ _ rfl), ⟨_, heap_new _ _ _ _ (by simp), fun k hk => by omega⟩, ((Below.refl _ _).alloc (Nat.le_refl _) _).alloc (by simp) _⟩
/-- The cut, the bytes being just as many. -/
theorem RqB.cut (h : RqB n N kd t 0 r w W) {V : Array Value} (zs : List Nat) (hV : V = (zsV zs).toArray) {l : List Int} {va : Option Addr} {c k K : Nat} (hl : SlB va c l W) (hk : l.length = k) (hK : zs.length = K) (h1 : 1 ≤ K) (h64 : K ≤ 64) (hz0 : ∀ z ∈ zs, z ≠ 0 ∧ z ≤ 65536) (hhd : headN zs = k) :
    Calls Tryd.prog 53 #[.slice va k c, .slice (some ⟨W.heap.size, 0, none⟩) K K] (W.alloc (.cells V 3)) fun e w' => ∃ gp cp, e = .returned (.tuple #[.slice (some ⟨gp, 0, none⟩) K cp, .int .i64 0]) ∧ RqS n N kd t 0 r gp cp (cutL zs l) w w' := by
  subst hV
  subst hk
  have hz := zsV_at zs W
  rw [zsV_flat] at hz
  have hb : Below W.heap.size W (W.alloc (.cells (zsV zs).toArray 3)) := (Below.refl _ _).alloc (Nat.le_refl _) _
  have hl2 := hl.later hb
  have hs := h.size
  refine (cut_any l va c W.heap.size zs K K _ hl2.row hl2.low hl2.cap hz hK h1 h64 (fun z hz => (hz0 z hz).2) (fun z hz => (hz0 z hz).1) hhd.symm).mono fun _ W2 ⟨⟨v, h3, g, cp, h4, h5, h6, h7⟩, h8⟩ => ?_
  have hc : (cutL zs l).length = K := by rw [cutL_length, hK]
  rw [World.size_alloc] at h5
  refine ⟨g, cp, by rw [h3, h4, hc], (h.later hb).later h8, g, cp, rfl, by omega, h6, fun i hi => ?_⟩
  obtain ⟨vb, ci, k1, k2, k3, k4, k5⟩ := h7 i hi
  exact ⟨vb, ci, k1, k2, k3, k4, fun b o e => by have := k5 b o e; rw [World.size_alloc] at this; omega⟩
/-- Eight bytes as a number. -/
def rdQ (q : List Int) : Int := rdI (fun j => q.getD j 0) 8
theorem rread_8 (q : List Int) (va : Option Addr) (c : Nat) (w : World) (hs : SlB va c q w) (hq : q.length = 8) :
    Calls Tryd.prog 80 #[.slice va 8 c] w fun e w' => e = .returned (.tuple #[.int .u64 (rdQ q), .int .i64 0]) ∧ w = w' := by
  have h := rread_any q va c w hs.row
  rw [hq] at h
  simpa [rdQ] using h
theorem part_at (zs : List Nat) (l : List Int) (i p k : Nat) (hz : ∀ z ∈ zs, z ≠ 0) (hi : i < zs.length) (hp : headN (zs.take i) = p) (hk : zs.getD i 0 = k) : (cutL zs l).getD i [] = (l.drop p).take k := by
  rw [cutL_get zs l i hz hi, hp, hk]
theorem part_len (l : List Int) (p k S : Nat) (hl : l.length = S) (h : p + k ≤ S) : ((l.drop p).take k).length = k := by
  rw [List.length_take, List.length_drop]; omega
theorem inN_at (l : List Int) (p : Nat) : inN l p 0 = rdI (fun j => ((l.drop p).take 8).getD j 0) 8 := by
  unfold inN inB
  rw [if_pos rfl]
theorem at_ldaddr {P : Program} {ops : Array Oper} {Q : Exit → Act → World → Prop} {rest : List Oper} {a : Act} {w : World} {d : Option Tmp} {ty : TypeId} {pos : String} {af : Array Edge} {g : Option (Nat × Bool)} (t : TypeId) (b k : Nat) {x : Operand} (hx : a.eval x = .pointer (some ⟨b, k, none⟩)) (h : wpList P ops Q (⟨d, .load t x, ty, pos, af, g⟩ :: rest) a w) : wpList P ops Q (⟨d, .load t x, ty, pos, af, g⟩ :: rest) a w := h
end
end Go.Proofs.YtihelknkcomjpaaDoor
