/- sha.root of the program: the words as bytes. -/
/- sha.Two of the program: the hash of two roots. -/
import Derived.Test.YtfnjcpopadpmbaaDoorJMix2
import Derived.Laws.CopyOwn
set_option linter.unusedVariables false
set_option linter.unusedSimpArgs false
set_option linter.unnecessarySimpa false
namespace Go.Proofs.YtfnjcpopadpmbaaDoor
open Go.RowKit BigFrame
set_option maxRecDepth 100000
/-- Byte j of the words. -/
def rootB (s : Hs) (j : Nat) : Int := wi (s.at (j / 4)) / (2 : Int) ^ (24 - 8 * (j % 4)) % 256
theorem rootB_at (s : Hs) (k j d : Nat) (hj : j < 4) (hd : d = 24 - 8 * j) (D : Int) (hD : (2 : Int) ^ d = D) : IntKind.u8.wrap (wi (s.at k) / D) = rootB s (4 * k + j) := by
  rw [IntKind.wrap_u8, rootB, show (4 * k + j) / 4 = k from by omega, show (4 * k + j) % 4 = j from by omega, ← hd, hD]
theorem rootB_is (s : Hs) (j : Nat) : IsB (rootB s j) := by
  unfold IsB rootB
  omega
/-- A store into a block that is known: the world goes on under a name. -/
theorem wpList_store_gen {P : Program} {ops : Array Oper} {rest : List Oper} {o : Oper} {a : Act} {w w0 : World} {Q : Exit → Act → World → Prop} {n0 : Nat} (ty : TypeId) (x y : Operand) (hg : o.guard = none) (ho : o.op = .store ty x y) (b k : Nat) (hx : a.eval x = .pointer (some ⟨b, k, none⟩)) (kd : IntKind) (m : Int) (hy : a.eval y = .int kd m)
    (hz : (P.info? ty).map (·.size) = some 1) (C : Array Value) (t : TypeId) (hC : w.heap[b]? = some (.cells C t (0, 0))) (hk : k < C.size) (hn : n0 ≤ b) (hB : Below n0 w0 w)
    (h : ∀ W, W.heap[b]? = some (.cells (C.setIfInBounds k (.int kd m)) t (0, 0)) → Below n0 w0 W → wpList P ops Q rest (a.put o.dst undef) W) : wpList P ops Q (o :: rest) a w := by
  refine wpList_plain hg fun K hK => ?_
  have hc : w.cell? ⟨b, k, none⟩ = some C[k] := (cell_of_row w b k C _ _ hC).trans (Array.getElem?_eq_getElem hk)
  have hf := Joins.unfrozen_of_block hC k
  cases hq : P.info? ty with
  | none => simp [hq] at hz
  | some i =>
    have hi : i.size = 1 := by simpa [hq] using hz
    have hs : (Instr.storeAt ty (.pointer (some ⟨b, k, none⟩)) (.int kd m)).run P w = .ok () (w.setCell ⟨b, k, none⟩ (.int kd m)) := by
      simp [Instr.storeAt, Instr.sureAddr, storeVar, storeCells, sizeOf, typeInfo, hq, hi, go_sem, hc, hf]
    unfold Oper.wp execOp
    simp only [ho, hx, hy, Sem.run_bind, hs, Result.andThen, Sem.run_pure, Oper.upon_skip]
    exact hK _ _ (h _ (Joins.block_setCell hC _) (hB.setCell hn _))
/-- A store of a whole row into a block that is known. -/
theorem wpList_store_row_gen {P : Program} {ops : Array Oper} {rest : List Oper} {o : Oper} {a : Act} {w w0 : World} {Q : Exit → Act → World → Prop} {n0 : Nat} (ty : TypeId) (x y : Operand) (hg : o.guard = none) (ho : o.op = .store ty x y) (b : Nat) (hx : a.eval x = .pointer (some ⟨b, 0, none⟩)) (cs : Array Value) (hy : a.eval y = .agg cs) (h1 : cs.all (·.oneCell') = true)
    (hz : (P.info? ty).map (·.size) = some cs.size) (C : Array Value) (t : TypeId) (hC : w.heap[b]? = some (.cells C t (0, 0))) (hk : C.size = cs.size) (hn : n0 ≤ b) (hB : Below n0 w0 w)
    (h : ∀ W, W.rangeAt b 0 cs.toList → Below n0 w0 W → (∀ j, j ≠ b → W.heap[j]? = w.heap[j]?) → wpList P ops Q rest (a.put o.dst undef) W) : wpList P ops Q (o :: rest) a w := by
  refine wpList_plain hg fun K hK => ?_
  have ht : w.there b 0 cs.size := fun j hj => by
    refine ⟨?_, Joins.unfrozen_of_block hC _⟩
    rw [cell_of_row w b (0 + j) C _ _ hC, Nat.zero_add, Array.getElem?_eq_getElem (by omega)]
    rfl
  have hs := run_storeAt_mid (P := P) w b 0 ty cs ht hz h1
  unfold Oper.wp execOp
  simp only [ho, hx, hy, Sem.run_bind, hs, Result.andThen, Sem.run_pure, Oper.upon_skip]
  exact hK _ _ (h _ (World.rangeAt_setCells_same _ _ _ _ (by simpa using ht)) (Below.setCells b hn _ _ _ hB) (block_setCells b _ _ _).2)
theorem ret_cell {P : Program} {fn : Func} {R : Ending → World → Prop} {a : Act} {w : World} {p : Tmp} {ty : TypeId} (h : fn.results = #[.cell p ty]) (g k : Nat) (cs : List Value) (d : TypeDesc)
    (hp : a.tmps.getD p undef = .pointer (some ⟨g, k, none⟩)) (hg : w.rangeAt g k cs)
    (hu : P.underlying ty = some d) (hd : d.isRow = true) (hi : (P.info? ty).map (·.size) = some cs.length) (hdf : a.defers = [])
    (hR : R (.returned (.agg cs.toArray)) w) : bodyPost P fn R .ret a w := by
  refine bodyPost_ret ?_ hdf hR
  have hp' : a.tmps[p]?.getD undef = .pointer (some ⟨g, k, none⟩) := by simpa using hp
  simp [results, h, hp', asAddr, run_loadVar_mid w g k ty cs d hg hu hd hi]
theorem row_root : rowB Tryd.prog 24 32 = true := by kernel_rfl
def RootI (n : Nat) (s : Hs) (k : Nat) (w1 wr : World) : Prop :=
  ∃ O : Array Value, wr.heap[n]? = some (.cells O 24 (0, 0)) ∧ O.size = 32 ∧ (∀ j, j < 4 * k → O[j]? = some (.int .u8 (rootB s j))) ∧ Below n w1 wr
theorem RootI.next {n : Nat} {s : Hs} {k : Nat} {w1 W : World} {O : Array Value} (h : ∀ j, j < 4 * k → O[j]? = some (.int .u8 (rootB s j))) (hs : O.size = 32) (hk : k < 8) (hB : Below n w1 W)
    (hC : W.heap[n]? = some (.cells ((((O.setIfInBounds (4 * k) (.int .u8 (rootB s (4 * k)))).setIfInBounds (4 * k + 1) (.int .u8 (rootB s (4 * k + 1)))).setIfInBounds (4 * k + 2) (.int .u8 (rootB s (4 * k + 2)))).setIfInBounds (4 * k + 3) (.int .u8 (rootB s (4 * k + 3)))) 24 (0, 0))) :
    RootI n s (k + 1) w1 W := by
  refine ⟨_, hC, by simp [hs], fun j hj => ?_, hB⟩
  simp only [Array.getElem?_setIfInBounds, Array.size_setIfInBounds, hs]
  by_cases c3 : 4 * k + 3 = j
  · subst c3; rw [if_pos rfl, if_pos (by omega)]
  rw [if_neg c3]
  by_cases c2 : 4 * k + 2 = j
  · subst c2; rw [if_pos rfl, if_pos (by omega)]
  rw [if_neg c2]
  by_cases c1 : 4 * k + 1 = j
  · subst c1; rw [if_pos rfl, if_pos (by omega)]
  rw [if_neg c1]
  by_cases c0 : 4 * k = j
  · subst c0; rw [if_pos rfl, if_pos (by omega)]
  rw [if_neg c0]
  exact h j (by omega)
theorem cells_eq {xs : Array Value} {n : Nat} {kd : Nat → CK} {f : Nat → Int} (hs : xs.size = n) (h : ∀ j, j < n → xs[j]? = some ((kd j).mk (f j))) : xs = (fcells n kd f).toArray := by
  apply Array.ext_getElem?
  intro j
  by_cases c : j < n
  · rw [h j c]
    have := fcells_get n kd f j c
    simpa using this.symm
  · rw [Array.getElem?_eq_none (by omega), Array.getElem?_eq_none (by simp [fcells]; omega)]
set_option maxHeartbeats 4000000 in
theorem sroot_any (hb : Nat) (s : Hs) (H : Array Value) (tH : TypeId) (w : World) (hH : w.heap[hb]? = some (.cells H tH (0, 0))) (hHc : ∀ j, j < 8 → H[j]? = some (.int .u32 (wi (s.at j)))) :
    Calls Tryd.prog 46 #[.pointer (some ⟨hb, 0, none⟩)] w fun e w' => e = .returned (.agg (fcells 32 (fun _ => .u8) (rootB s)).toArray) ∧ Below w.heap.size w w' := by
  have hhb : hb < w.heap.size := block_lt_of_cell ((cell_of_row w hb 0 H _ _ hH).trans (hHc 0 (by omega)))
  have hHc' := Lib.hid hHc
  have hH' := Lib.hid hH
  clear hH hHc
  obtain ⟨w1, hw1⟩ : ∃ w1, w1 = w.alloc (.cells (List.replicate 32 (Value.int .u8 0)).toArray 24) := ⟨_, rfl⟩
  have hb1 : Below w.heap.size w w1 := by rw [hw1]; exact (Below.refl _ _).alloc (Nat.le_refl _) _
  have hr1 : w1.heap[w.heap.size]? = some (.cells (List.replicate 32 (Value.int .u8 0)).toArray 24 (0, 0)) := by rw [hw1]; exact heap_alloc_last w _
  have hs1 : w1.heap.size = w.heap.size + 1 := by rw [hw1]; simp
  go_enter Tryd.func46, Tryd.ntmps46
  go_wp2
  refine gen_world (RootI (w.heap.size + 1) s 0 w1) ⟨_, heap_alloc2_new w _ _, rfl, fun j hj => absurd hj (by omega), by rw [← hs1, hw1]; exact (Below.refl _ _).alloc (Nat.le_refl _) _⟩ ?_
  intro W0 hI0
  have hH1 := Lib.hid ((hb1.block hb hhb).trans hH'.out)
  go_loopw [7] (fun i wr => ∃ k : Nat, k ≤ 8 ∧ i = .int .i64 k ∧ RootI (w.heap.size + 1) s k w1 wr) (fun i _ => 8 - (intOf i).toNat)
  case atStart => exact ⟨0, by omega, rfl, hI0⟩
  case round =>
    obtain ⟨k, hk, rfl, O, hO, hOs, hOc, hB⟩ := hrel
    clear hI0
    by_cases hlt : k < 8
    · have hk8 : (k : Int) < 8 := by omega
      have hx := (hB.cell (p := ⟨hb, k, none⟩) (by simp only; omega)).trans ((cell_of_row w1 hb k H _ _ hH1.out).trans (hHc'.out k hlt))
      have wa : IntKind.i64.wrap (4 * (k : Int)) = ((4 * k : Nat) : Int) := by rw [IntKind.wrap_i64]; omega
      have wb (j : Nat) (hj : j ≤ 3) : IntKind.i64.wrap (((4 * k : Nat) : Int) + j) = ((4 * k + j : Nat) : Int) := by rw [IntKind.wrap_i64]; omega
      have wb1 := wb 1 (by omega)
      have wb2 := wb 2 (by omega)
      have wb3 := wb 3 (by omega)
      have l0 : ((4 * k : Nat) : Int) < 32 := by omega
      have l1 : ((4 * k + 1 : Nat) : Int) < 32 := by omega
      have l2 : ((4 * k + 2 : Nat) : Int) < 32 := by omega
      have l3 : ((4 * k + 3 : Nat) : Int) < 32 := by omega
      have v0 : IntKind.u8.wrap (wi (s.at k) / (16777216 : Int)) = rootB s (4 * k) := rootB_at s k 0 24 (by omega) rfl _ rfl
      have v1 : IntKind.u8.wrap (wi (s.at k) / (65536 : Int)) = rootB s (4 * k + 1) := rootB_at s k 1 16 (by omega) rfl _ rfl
      have v2 : IntKind.u8.wrap (wi (s.at k) / (256 : Int)) = rootB s (4 * k + 2) := rootB_at s k 2 8 (by omega) rfl _ rfl
      have v3 : IntKind.u8.wrap (wi (s.at k)) = rootB s (4 * k + 3) := by
        have := rootB_at s k 3 0 (by omega) rfl 1 rfl
        rwa [Int.ediv_one] at this
      have gO := Lib.hid hO
      have gOc := Lib.hid hOc
      have gB := Lib.hid hB
      have z0 : 4 * k < O.size := by omega
      have z1 : 4 * k + 1 < O.size := by omega
      have z2 : 4 * k + 2 < O.size := by omega
      have z3 : 4 * k + 3 < O.size := by omega
      generalize hm0 : 4 * k = m0 at *
      generalize hm1 : m0 + 1 = m1 at *
      generalize hm2 : m0 + 2 = m2 at *
      generalize hm3 : m0 + 3 = m3 at *
      simp only [Int.cast_ofNat_Int] at wb1 wb2 wb3
      clear wb hO hOc hB
      go_wp2
      go_big_quiet (fail)
      go_wp2_with (first
        | ((with_reducible refine at_store 5 ?_); refine wpList_store_gen 5 _ _ rfl rfl (w.heap.size + 1) m0 rfl .u8 _ rfl (by kernel_rfl) O 24 gO.out z0 (by omega) ⟨gB.out.os, gB.out.tape, gB.out.output, gB.out.size, gB.out.block⟩ (fun W1 hC1 hB1 => ?_); have eC1 := Lib.hid hC1; have eB1 := Lib.hid hB1; clear hC1 hB1)
        | ((with_reducible refine at_store 5 ?_); refine wpList_store_gen 5 _ _ rfl rfl (w.heap.size + 1) m1 rfl .u8 _ rfl (by kernel_rfl) _ 24 eC1.out (by simpa using z1) (by omega) eB1.out (fun W2 hC2 hB2 => ?_); have eC2 := Lib.hid hC2; have eB2 := Lib.hid hB2; clear hC2 hB2)
        | ((with_reducible refine at_store 5 ?_); refine wpList_store_gen 5 _ _ rfl rfl (w.heap.size + 1) m2 rfl .u8 _ rfl (by kernel_rfl) _ 24 eC2.out (by simpa using z2) (by omega) eB2.out (fun W3 hC3 hB3 => ?_); have eC3 := Lib.hid hC3; have eB3 := Lib.hid hB3; clear hC3 hB3)
        | ((with_reducible refine at_store 5 ?_); refine wpList_store_gen 5 _ _ rfl rfl (w.heap.size + 1) m3 rfl .u8 _ rfl (by kernel_rfl) _ 24 eC3.out (by simpa using z3) (by omega) eB3.out (fun W4 hC4 hB4 => ?_); have eC4 := Lib.hid hC4; have eB4 := Lib.hid hB4; clear hC4 hB4))
      subst hm0 hm1 hm2 hm3
      exact ⟨⟨k + 1, by omega, by go_num, RootI.next gOc.out hOs hlt eB4.out eC4.out⟩, by simp [intOf]; omega⟩
    · have e : k = 8 := by omega
      subst e
      have hE := cells_eq (kd := fun _ => .u8) hOs (fun j hj => hOc j (by omega))
      have hres := hB.block w.heap.size (by omega)
      rw [hr1] at hres
      have hO' := Lib.hid (hE ▸ hO)
      have hres' := Lib.hid hres
      have hB' := Lib.hid hB
      clear hO hOc hres hB hE hOs
      go_wp2_with (first
        | ((with_reducible refine at_load 24 ?_); refine wpList_value (by rfl) _ (run_load_box _ 24 _ (by rfl) (w.heap.size + 1) (by rfl) _ _ (0, 0) _ hO'.out Tryd.underlying24 rfl (by rw [row_size row_root]; simp [fcells])) ?_)
        | ((with_reducible refine at_store 24 ?_); refine wpList_store_row_gen 24 _ _ rfl rfl w.heap.size rfl _ rfl (fcells_one _ _ _) (by rw [row_size row_root]; simp [fcells]) _ 24 hres'.out (by simp [fcells]) (Nat.le_refl _) (hb1.trans (hB'.out.mono (by omega))) (fun W hW hBW _ => ?_)))
      exact ret_cell rfl w.heap.size 0 (fcells 32 (fun _ => .u8) (rootB s)) _ rfl (by simpa using hW) Tryd.underlying24 rfl (by rw [row_size row_root, fcells_length]) rfl ⟨rfl, hBW⟩
end Go.Proofs.YtfnjcpopadpmbaaDoor
namespace Go.Proofs.YtfnjcpopadpmbaaDoor
open Go.RowKit BigFrame
set_option maxRecDepth 100000
/-- The tables of the package, as they are laid. -/
structure Tabs (w : World) : Prop where
  start : ∀ j, j < 8 → w.cell? ⟨0, j, none⟩ = some (.int .u32 (wi (shaIv.at j)))
  round : ∀ t, t < 64 → w.cell? ⟨1, t, none⟩ = some (.int .u32 (wi (shaKw t)))
  consts : ∀ t, t < 64 → w.cell? ⟨2, t, none⟩ = some (.int .u32 (wi (shaKw t)))
theorem Tabs.below {w W : World} {n : Nat} (h : Tabs w) (hn : 3 ≤ n) (hb : Below n w W) : Tabs W :=
  ⟨fun j hj => (hb.cell (by simp only; omega)).trans (h.start j hj), fun j hj => (hb.cell (by simp only; omega)).trans (h.round j hj), fun j hj => (hb.cell (by simp only; omega)).trans (h.consts j hj)⟩
theorem Tabs.size {w : World} (h : Tabs w) : 3 ≤ w.heap.size := block_lt_of_cell (h.consts 0 (by omega))
abbrev rootV (a : Nat → Int) : Array Value := (fcells 32 (fun _ => .u8) a).toArray
def IsR (a : Nat → Int) : Prop := ∀ j, j < 32 → IsB (a j)
/-- copy into a block of the call's own. -/
theorem wp_copy_gen {P : Program} {o : Oper} {a : Act} {w : World} {K : Act → World → Prop} {Q : Exit → Act → World → Prop} (d s : Operand) (dT sT : TypeId)
    (ho : o.op = .call { callee := .builtin .copy, args := #[d, s], argTypes := #[dT, sT] }) (elem : TypeId) (hu : P.underlying dT = some (.slice elem)) (hsz : (P.info? elem).map (·.size) = some 1)
    (g off b bo dLen dCap sLen sCap : Nat) (hd : a.eval d = .slice (some ⟨g, off, none⟩) dLen dCap) (hs : a.eval s = .slice (some ⟨b, bo, none⟩) sLen sCap)
    (cur : Array Value) (t : TypeId) (hg : w.heap[g]? = some (.cells cur t (0, 0))) (cs : List Value) (hn : cs.length = Nat.min sLen dLen) (hsrc : w.rangeAt b bo cs)
    (hfit : off + cs.length ≤ cur.size) (h1 : ∀ v ∈ cs, v.oneCell' = true)
    (h : ∀ W, W.heap[g]? = some (.cells (splice cur.toList off cs).toArray t (0, 0)) → Apart g w W → K (a.put o.dst (goInt cs.length)) W) : o.wp P a w K Q := by
  have hrun := run_copy_row (P := P) w dT sT o.type elem g off dLen dCap ⟨b, bo, none⟩ sLen sCap cur t cs hu hsz hg hn (fun j v hv => by
    have := hsrc j v hv
    have e : (⟨b, bo, none⟩ : Addr).add j = ⟨b, bo + j, none⟩ := by unfold Addr.add; split <;> simp_all
    rw [e]
    exact this) hfit h1
  unfold Oper.wp
  simp [execOp, ho, resolve, invoke, builtin, hd, hs, hrun, Result.andThen]
  refine h _ (show _ = _ by simpa [splice] using setRow_heap w g _ _ t _ hg) ⟨rfl, rfl, rfl, by simp, fun j _ hj => setRow_other w g j _ hj⟩
theorem splice_get {l cs : List Value} {o j : Nat} (hl : o + cs.length ≤ l.length) : (splice l o cs)[j]? = if j < o then l[j]? else if j < o + cs.length then cs[j - o]? else l[j]? := by
  unfold splice
  by_cases h1 : j < o
  · rw [if_pos h1, List.getElem?_append_left (by simp; omega), List.getElem?_take_of_lt h1]
  · rw [if_neg h1, List.getElem?_append_right (by simp; omega)]
    simp only [List.length_take, Nat.min_eq_left (show o ≤ l.length by omega)]
    by_cases h2 : j < o + cs.length
    · rw [if_pos h2, List.getElem?_append_left (by omega)]
    · rw [if_neg h2, List.getElem?_append_right (by omega), List.getElem?_drop]
      congr 1
      omega
theorem splice_length {l cs : List Value} {o : Nat} (hl : o + cs.length ≤ l.length) : (splice l o cs).length = l.length := by
  unfold splice
  simp
  omega
abbrev rep (n : Nat) : Array Value := (List.replicate n (Value.int .u8 0)).toArray
/-- The blocks of Two: the two arguments, the result, both, the padding. -/
structure TwoW (n : Nat) (w : World) (a b : Nat → Int) (bo pd : Array Value) (W : World) : Prop where
  below : Below n w W
  size : n + 5 ≤ W.heap.size
  hA : W.heap[n]? = some (.cells (rootV a) 24 (0, 0))
  hB : W.heap[n + 1]? = some (.cells (rootV b) 24 (0, 0))
  hR : W.heap[n + 1 + 1]? = some (.cells (rep 32) 24 (0, 0))
  hBo : W.heap[n + 1 + 1 + 1]? = some (.cells bo 102 (0, 0))
  hP : W.heap[n + 1 + 1 + 1 + 1]? = some (.cells pd 102 (0, 0))
theorem TwoW.both {n : Nat} {w : World} {a b : Nat → Int} {bo bo' pd : Array Value} {W W' : World} (h : TwoW n w a b bo pd W) (hx : Apart (n + 1 + 1 + 1) W W') (hb : W'.heap[n + 1 + 1 + 1]? = some (.cells bo' 102 (0, 0))) : TwoW n w a b bo' pd W' := by
  have := h.size
  exact ⟨hx.below h.below (by omega) (by omega), by have := hx.size; omega, (hx.block _ (by omega) (by omega)).trans h.hA, (hx.block _ (by omega) (by omega)).trans h.hB, (hx.block _ (by omega) (by omega)).trans h.hR, hb, (hx.block _ (by omega) (by omega)).trans h.hP⟩
theorem TwoW.later {n : Nat} {w : World} {a b : Nat → Int} {bo pd : Array Value} {W W' : World} {k : Nat} (h : TwoW n w a b bo pd W) (hx : Apart k W W') (hk : n + 5 ≤ k) : TwoW n w a b bo pd W' := by
  have := h.size
  exact ⟨hx.below h.below (by omega) (by omega), by have := hx.size; omega, (hx.block _ (by omega) (by omega)).trans h.hA, (hx.block _ (by omega) (by omega)).trans h.hB, (hx.block _ (by omega) (by omega)).trans h.hR, (hx.block _ (by omega) (by omega)).trans h.hBo, (hx.block _ (by omega) (by omega)).trans h.hP⟩
theorem heap_new (w : World) (C : Array Value) (t : TypeId) (k : Nat) (hk : k = w.heap.size) : (w.alloc (.cells C t)).heap[k]? = some (.cells C t (0, 0)) := by
  subst hk
  exact heap_alloc_last w _
theorem Apart.trans {k : Nat} {A B C : World} (h : Apart k A B) (g : Apart k B C) : Apart k A C :=
  ⟨g.os.trans h.os, g.tape.trans h.tape, g.output.trans h.output, Nat.le_trans h.size g.size, fun b hb hk => (g.block b (by have := h.size; omega) hk).trans (h.block b hb hk)⟩
theorem wpList_store_apart {P : Program} {ops : Array Oper} {rest : List Oper} {o : Oper} {a : Act} {w : World} {Q : Exit → Act → World → Prop} (ty : TypeId) (x y : Operand) (hg : o.guard = none) (ho : o.op = .store ty x y) (b k : Nat) (hx : a.eval x = .pointer (some ⟨b, k, none⟩)) (kd : IntKind) (m : Int) (hy : a.eval y = .int kd m)
    (hz : (P.info? ty).map (·.size) = some 1) (C : Array Value) (t : TypeId) (hC : w.heap[b]? = some (.cells C t (0, 0))) (hk : k < C.size)
    (h : ∀ W, W.heap[b]? = some (.cells (C.setIfInBounds k (.int kd m)) t (0, 0)) → Apart b w W → wpList P ops Q rest (a.put o.dst undef) W) : wpList P ops Q (o :: rest) a w := by
  refine wpList_plain hg fun K hK => ?_
  have hc : w.cell? ⟨b, k, none⟩ = some C[k] := (cell_of_row w b k C _ _ hC).trans (Array.getElem?_eq_getElem hk)
  have hf := Joins.unfrozen_of_block hC k
  cases hq : P.info? ty with
  | none => simp [hq] at hz
  | some i =>
    have hi : i.size = 1 := by simpa [hq] using hz
    have hs : (Instr.storeAt ty (.pointer (some ⟨b, k, none⟩)) (.int kd m)).run P w = .ok () (w.setCell ⟨b, k, none⟩ (.int kd m)) := by
      simp [Instr.storeAt, Instr.sureAddr, storeVar, storeCells, sizeOf, typeInfo, hq, hi, go_sem, hc, hf]
    unfold Oper.wp execOp
    simp only [ho, hx, hy, Sem.run_bind, hs, Result.andThen, Sem.run_pure, Oper.upon_skip]
    exact hK _ _ (h _ (Joins.block_setCell hC _) ((⟨rfl, rfl, rfl, Nat.le_refl _, fun _ _ _ => rfl⟩ : Apart b w w).setCell _ _))
theorem Tabs.range {w : World} (h : Tabs w) : w.rangeAt 0 0 shaIv.cells := fun j v hv => by
  have hj : j < 8 := (List.getElem?_eq_some_iff.1 hv).1
  have := shaIv.cells_get j hj
  rw [List.getElem?_toArray, hv] at this
  rw [Nat.zero_add, h.start j hj, this]
theorem Hs.cells_one (s : Hs) : s.cells.toArray.all (·.oneCell') = true := by
  rw [Array.all_eq_true_iff_forall_mem]
  intro v hv
  have : v ∈ s.cells := by simpa using hv
  simp only [Hs.cells, List.mem_cons, List.not_mem_nil, or_false] at this
  rcases this with rfl | rfl | rfl | rfl | rfl | rfl | rfl | rfl <;> rfl
theorem Apart.refl (k : Nat) (W : World) : Apart k W W := ⟨rfl, rfl, rfl, Nat.le_refl _, fun _ _ _ => rfl⟩
theorem sz_u8 : (Tryd.prog.info? 5).map (·.size) = some 1 := by kernel_rfl
end Go.Proofs.YtfnjcpopadpmbaaDoor
