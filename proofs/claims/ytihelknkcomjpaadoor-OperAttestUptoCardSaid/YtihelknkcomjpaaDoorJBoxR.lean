/- Structs of flat cells in a box; what the program's encoders and hashers keep while they go through the fields. -/
/- Small lemmas for the containers. -/
/- What the reference's encoders and hashers keep while they go through the fields. -/
import Derived.Test.YtihelknkcomjpaaDoorJCut
import Derived.Test.YtihelknkcomjpaaDoorJRef5c
set_option linter.unusedVariables false
set_option linter.unusedSimpArgs false
set_option linter.unnecessarySimpa false
namespace Go.Proofs.YtihelknkcomjpaaDoor
open Go.RowKit BigFrame
set_option maxRecDepth 100000
/-- The numbers from off on. -/
def shF (f : Nat → Int) (off : Nat) : Nat → Int := fun j => f (off + j)
/-- The numbers off .. off + len - 1. -/
def byL (f : Nat → Int) (off len : Nat) : List Int := (List.range len).map fun j => f (off + j)
theorem byL_length (f : Nat → Int) (off len : Nat) : (byL f off len).length = len := by simp [byL]
theorem byL_get (f : Nat → Int) (off len j : Nat) (h : j < len) : (byL f off len).getD j 0 = f (off + j) := by simp [byL, List.getD, h]
theorem byL_ok {f : Nat → Int} {off len : Nat} (h : ∀ j, j < len → IsB (f (off + j))) : ∀ m ∈ byL f off len, CK.ok .u8 m := fun m hm => by
  obtain ⟨j, hj, rfl⟩ := List.mem_map.1 hm
  exact h j (by simpa using hj)
theorem ok_u8 {f : Nat → Int} {N off len : Nat} {kd : Nat → CK} (hf : ∀ j, j < N → (kd j).ok (f j)) (hk : ∀ j, j < len → kd (off + j) = .u8) (hN : off + len ≤ N) : ∀ j, j < len → IsB (f (off + j)) := fun j hj => by
  have := hf (off + j) (by omega)
  rw [hk j hj] at this
  exact this
structure Box (n N : Nat) (kd : Nat → CK) (f : Nat → Int) (t : TypeId) (w W : World) : Prop where
  hX : W.heap[n]? = some (.cells (fcells N kd f).toArray t (0, 0))
  hB : Below n w W
section
variable {n N : Nat} {kd : Nat → CK} {f : Nat → Int} {t : TypeId} {w W W' : World}
theorem Box.cell (h : Box n N kd f t w W) {j : Nat} (hj : j < N) : W.cell? ⟨n, j, none⟩ = some ((kd j).mk (f j)) := by
  rw [cell_of_row W n j _ _ _ h.hX, List.getElem?_toArray, fcells_get _ _ _ _ hj]
theorem Box.flag (h : Box n N kd f t w W) {j : Nat} (hj : j < N) (hk : kd j = .bool) : W.cell? ⟨n, j, none⟩ = some (.bool (!decide (f j = 0))) := by
  rw [h.cell hj, hk]
  simp [CK.mk]
theorem Box.row (h : Box n N kd f t w W) (off len : Nat) (hk : ∀ j, j < len → kd (off + j) = .u8) (hN : off + len ≤ N) (hok : ∀ j, j < N → (kd j).ok (f j)) : Row W (some ⟨n, off, none⟩) .u8 (byL f off len) := by
  refine ⟨fun i hi => ⟨n, off, rfl, ?_⟩, byL_ok (ok_u8 hok hk hN)⟩
  rw [byL_length] at hi
  rw [h.cell (by omega), hk i hi, byL_get _ _ _ _ hi]
theorem Box.sub (h : Box n N kd f t w W) (off len : Nat) (kd' : Nat → CK) (hk : ∀ j, j < len → kd (off + j) = kd' j) (hN : off + len ≤ N) : W.rangeAt n off (fcells len kd' (shF f off)) := fun j v hv => by
  have hj : j < len := by have := (List.getElem?_eq_some_iff.1 hv).1; rwa [fcells_length] at this
  rw [fcells_get _ _ _ _ hj] at hv
  rw [h.cell (by omega), hk j hj]
  exact hv
theorem Box.later (h : Box n N kd f t w W) (hb : Below (n + 1) W W') : Box n N kd f t w W' := ⟨(hb.block n (by omega)).trans h.hX, h.hB.trans (hb.mono (by omega))⟩
end
theorem sub_ok {f : Nat → Int} {N off len : Nat} {kd kd' : Nat → CK} (hf : ∀ j, j < N → (kd j).ok (f j)) (hk : ∀ j, j < len → kd (off + j) = kd' j) (hN : off + len ≤ N) : ∀ j, j < len → (kd' j).ok (shF f off j) := fun j hj => by
  have := hf (off + j) (by omega)
  rw [hk j hj] at this
  exact this
theorem own_mono {base base' : Nat} {v : Value} {l : List Int} {w : World} (h : OwnB base v l w) (hb : base' ≤ base) : OwnB base' v l w := by
  refine ⟨h.1, ?_⟩
  rcases h.2 with h1 | ⟨g, cap, cur, h1, h2, h3⟩
  · exact Or.inl h1
  · exact Or.inr ⟨g, cap, cur, h1, by omega, h3⟩
/-- A slice of bytes, wherever it lies below the heap's end. -/
structure SlB (va : Option Addr) (c : Nat) (m : List Int) (W : World) : Prop where
  row : Row W va .u8 m
  nil : va = none → c = 0
  cap : m.length ≤ c
  low : ∀ b o, va = some ⟨b, o, none⟩ → b < W.heap.size
theorem SlB.later {va : Option Addr} {c : Nat} {m : List Int} {W W' : World} (h : SlB va c m W) (hb : Below W.heap.size W W') : SlB va c m W' :=
  ⟨h.row.later hb, h.nil, h.cap, fun b o e => Nat.lt_of_lt_of_le (h.low b o e) hb.size⟩
theorem SlB.of_own {base n c : Nat} {va : Option Addr} {m : List Int} {W : World} (h : OwnB base (.slice va n c) m W) (hm : ∀ x ∈ m, CK.ok .u8 x) (hn : va = none → c = 0) : SlB va c m W := by
  obtain ⟨va', c', e, hr, hc⟩ := h.row hm
  injection e with e1 e2 e3
  subst e1
  subst e3
  refine ⟨hr, hn, hc, fun b o e => ?_⟩
  rcases h.2 with ⟨h1, h2⟩ | ⟨g, cap, cur, h1, h2, h3, _⟩
  · injection h1 with h1
    rw [h1] at e
    cases e
  · injection h1 with h1
    rw [h1] at e
    cases e
    exact block_lt h3
/-! Encoders. -/
structure EncS (n N : Nat) (kd : Nat → CK) (f : Nat → Int) (t : TypeId) (l : List Int) (w W : World) : Prop extends Box n N kd f t w W where
  hO : OutW (n + 1) l W
section
variable {n N : Nat} {kd : Nat → CK} {f : Nat → Int} {t : TypeId} {l : List Int} {w W W' : World}
theorem EncS.step {l' : List Int} (h : EncS n N kd f t l w W) (hO : OutW (n + 1) l' W') (hb : Below (n + 1) W W') : EncS n N kd f t l' w W' := ⟨h.toBox.later hb, hO⟩
theorem OutW.later {b : Nat} (h : OutW b l W) (hb : Below W.heap.size W W') : OutW b l W' := by
  obtain ⟨v, h1, h2⟩ := h
  exact ⟨v, (hb.block b (block_lt h1)).trans h1, OwnB.later h2 hb⟩
theorem EncS.later (h : EncS n N kd f t l w W) (hb : Below W.heap.size W W') : EncS n N kd f t l w W' :=
  ⟨h.toBox.later (hb.mono (by have := block_lt h.hX; omega)), h.hO.later hb⟩
theorem EncS.u64 (h : EncS n N kd f t l w W) (m : Int) (hlen : l.length ≤ 70368744170000) :
    Calls Tryd.prog 62 #[.pointer (some ⟨n + 1, 0, none⟩), .int .u64 m] W fun e w' => e = .returned (.tuple #[]) ∧ EncS n N kd f t (l ++ numL m) w w' :=
  (out_u64 (n + 1) l m W h.hO hlen).mono fun _ _ ⟨h1, h2, h3⟩ => ⟨h1, h.step h2 h3⟩
theorem EncS.app (h : EncS n N kd f t l w W) (m : List Int) (k : Nat) (va : Option Addr) (c : Nat) (hs : SlB va c m W) (hk : m.length = k) (hlen : l.length + k ≤ 70368744170000) :
    Calls Tryd.prog 39 #[.pointer (some ⟨n + 1, 0, none⟩), .slice va k c] W fun e w' => e = .returned (.tuple #[]) ∧ EncS n N kd f t (l ++ m) w w' := by
  subst hk
  exact (out_bytes (n + 1) l m va c W h.hO hs.row hs.nil (by omega)).mono fun _ _ ⟨h1, h2, h3⟩ => ⟨h1, h.step h2 h3⟩
theorem EncS.bytes (h : EncS n N kd f t l w W) (off len : Nat) (hk : ∀ j, j < len → kd (off + j) = .u8) (hN : off + len ≤ N) (hok : ∀ j, j < N → (kd j).ok (f j)) (hlen : l.length + len ≤ 70368744170000) :
    Calls Tryd.prog 39 #[.pointer (some ⟨n + 1, 0, none⟩), .slice (some ⟨n, off, none⟩) len len] W fun e w' => e = .returned (.tuple #[]) ∧ EncS n N kd f t (l ++ byL f off len) w w' :=
  h.app _ len _ _ ⟨h.toBox.row off len hk hN hok, (fun e => by cases e), by rw [byL_length]; exact Nat.le_refl _, fun b o e => by cases e; exact block_lt h.hX⟩ (byL_length _ _ _) hlen
theorem EncS.done (h : EncS n N kd f t l w W) (S : Nat) (hS : l.length = S) (hlen : S ≤ 70368744170000) :
    Calls Tryd.prog 41 #[.pointer (some ⟨n + 1, 0, none⟩)] W fun e w' => (∃ va c, e = .returned (.tuple #[.slice va S c, .int .i64 0]) ∧ (va = none → c = 0) ∧ OwnB n (.slice va S c) l w') ∧ Below n w w' := by
  subst hS
  exact (out_done (n + 1) l W h.hO (by omega)).mono fun _ _ ⟨⟨va, c, h1, h2, h3⟩, h4⟩ => ⟨⟨va, c, h1, h2, own_mono h3 (by omega)⟩, h.hB.trans (h4.mono (by omega))⟩
theorem EncS.begin (h1 : (w.alloc (.cells (fcells N kd f).toArray t)).heap[n]? = some (.cells (fcells N kd f).toArray t (0, 0))) (hn : w.heap.size = n) : EncS n N kd f t [] w ((w.alloc (.cells (fcells N kd f).toArray t)).alloc (.cells (outC (.slice none 0 0)) 84)) := by
  subst hn
  exact ⟨⟨heap_past _ _ _ _ h1, ((Below.refl _ _).alloc (Nat.le_refl _) _).alloc (by simp) _⟩, ⟨_, heap_new _ _ _ _ (by simp), OwnB.nil _ _⟩⟩
end
theorem info_out : (Tryd.prog.info? 84).map (fun i => (i.zero, i.size)) = some (some (.agg (outC (.slice none 0 0))), 5) := by kernel_rfl
/-! Hashers. -/
structure HashS (n N : Nat) (kd : Nat → CK) (f : Nat → Int) (t : TypeId) (rs : List (Nat → Int)) (w W : World) : Prop extends Box n N kd f t w W where
  hR : W.heap[n + 1]? = some (.cells zr 23 (0, 0))
  hH : HashW (n + 1 + 1) rs W
  hT : Tabs W
  h3 : 3 ≤ n
section
variable {n N : Nat} {kd : Nat → CK} {f : Nat → Int} {t : TypeId} {rs : List (Nat → Int)} {w W W' : World}
theorem HashS.step {rs' : List (Nat → Int)} (h : HashS n N kd f t rs w W) (hH : HashW (n + 1 + 1) rs' W') (hb : Below (n + 1 + 1) W W') : HashS n N kd f t rs' w W' :=
  ⟨h.toBox.later (hb.mono (by omega)), (hb.block (n + 1) (by omega)).trans h.hR, hH, h.hT.below (by have := h.h3; omega) hb, h.h3⟩
theorem HashE.later {er : Int} {b : Nat} (h : HashE er b rs W) (hb : Below W.heap.size W W') : HashE er b rs W' := by
  obtain ⟨h0, v, h1, h2⟩ := h
  exact ⟨h0, v, (hb.block b (block_lt h1)).trans h1, own_later h2 hb⟩
theorem HashS.later (h : HashS n N kd f t rs w W) (hb : Below W.heap.size W W') : HashS n N kd f t rs w W' := h.step (h.hH.later hb) (hb.mono h.hH.size |>.mono (by omega))
theorem HashS.u64 (h : HashS n N kd f t rs w W) (m : Int) (hlen : rs.length ≤ 1000) :
    Calls Tryd.prog 89 #[.pointer (some ⟨n + 1 + 1, 0, none⟩), .int .u64 m] W fun e w' => e = .returned (.tuple #[]) ∧ HashS n N kd f t (rs ++ [numR m]) w w' :=
  (hash_u64 (n + 1 + 1) rs m W h.hH (by omega)).mono fun _ _ ⟨h1, h2, h3⟩ => ⟨h1, h.step h2 h3⟩
theorem HashS.put (h : HashS n N kd f t rs w W) (r : Nat → Int) (hr : IsR r) (hlen : rs.length ≤ 1000) :
    Calls Tryd.prog 42 #[.pointer (some ⟨n + 1 + 1, 0, none⟩), .agg (rootV r), .int .i64 0] W fun e w' => e = .returned (.tuple #[]) ∧ HashS n N kd f t (rs ++ [r]) w w' :=
  (hash_put (n + 1 + 1) rs r W h.hH hr (by omega)).mono fun _ _ ⟨h1, h2, h3⟩ => ⟨h1, h.step h2 h3⟩
/-- The root of bytes. -/
def byR (d : Nat) (l : List Int) : Nat → Int := fullT d (leaf (chunks l))
theorem HashS.bytes (h : HashS n N kd f t rs w W) (off len d : Nat) (hk : ∀ j, j < len → kd (off + j) = .u8) (hN : off + len ≤ N) (hok : ∀ j, j < N → (kd j).ok (f j)) (h1 : 1 ≤ len) (h2 : len ≤ 100000) (hd : Dep ((len + 31) / 32) d) (hd40 : d ≤ 40) (hlen : rs.length ≤ 1000) :
    Calls Tryd.prog 68 #[.pointer (some ⟨n + 1 + 1, 0, none⟩), .slice (some ⟨n, off, none⟩) len len] W fun e w' => e = .returned (.tuple #[]) ∧ HashS n N kd f t (rs ++ [byR d (byL f off len)]) w w' := by
  have hr := h.toBox.row off len hk hN hok
  have hl := byL_length f off len
  unfold byR
  generalize byL f off len = l at *
  subst hl
  exact (hash_bytes (n + 1 + 1) d rs l _ l.length W h.hH h.hT (by have := h.h3; omega) hr (Nat.le_refl _) h1 (by omega) hd hd40 (by omega)).mono fun _ _ ⟨h1, h2, h3⟩ => ⟨h1, h.step h2 h3⟩
theorem HashS.done (h : HashS n N kd f t rs w W) (d : Nat) (hd : Dep rs.length d) (hn : 1 ≤ rs.length) (hd40 : d ≤ 40) :
    Calls Tryd.prog 43 #[.pointer (some ⟨n + 1 + 1, 0, none⟩)] W fun e w' => e = .returned (.tuple #[.agg (rootV (fullT d (leaf rs))), .int .i64 0]) ∧ Below n w w' ∧ w'.heap[n + 1]? = some (.cells zr 23 (0, 0)) :=
  (hash_done (n + 1 + 1) d rs W h.hH h.hT (by have := h.h3; omega) hd hn hd40).mono fun _ _ ⟨h1, h2⟩ => ⟨h1, h.hB.trans (h2.mono (by omega)), (h2.block (n + 1) (by omega)).trans h.hR⟩
theorem HashS.begin (h1 : (w.alloc (.cells (fcells N kd f).toArray t)).heap[n]? = some (.cells (fcells N kd f).toArray t (0, 0))) (hn : w.heap.size = n) (hT : Tabs w) :
    HashS n N kd f t [] w (((w.alloc (.cells (fcells N kd f).toArray t)).alloc (.cells zr 23)).alloc (.cells (hashC (.slice none 0 0)) 90)) := by
  subst hn
  have hb : Below w.heap.size w (((w.alloc (.cells (fcells N kd f).toArray t)).alloc (.cells zr 23)).alloc (.cells (hashC (.slice none 0 0)) 90)) := (((Below.refl _ _).alloc (Nat.le_refl _) _).alloc (by simp) _).alloc (by simp; omega) _
  exact ⟨⟨heap_past _ _ _ _ (heap_past _ _ _ _ h1), hb⟩, heap_past _ _ _ _ (heap_new _ _ _ _ (by simp)), ⟨(fun r hr => by simp at hr), _, heap_new _ _ _ _ (by simp), rfl, Or.inl ⟨rfl, rfl⟩⟩, hT.below hT.size hb, hT.size⟩
end
theorem info_hash : (Tryd.prog.info? 90).map (fun i => (i.zero, i.size)) = some (some (.agg (hashC (.slice none 0 0))), 2) := by kernel_rfl
end Go.Proofs.YtihelknkcomjpaaDoor
namespace Go.Proofs.YtihelknkcomjpaaDoor
open Go.RowKit BigFrame
set_option maxRecDepth 100000
theorem ok_append {a b : List Int} (ha : ∀ m ∈ a, CK.ok .u8 m) (hb : ∀ m ∈ b, CK.ok .u8 m) : ∀ m ∈ a ++ b, CK.ok .u8 m := fun m hm => (List.mem_append.1 hm).elim (ha m) (hb m)
theorem isR_u8 {f : Nat → Int} {N off : Nat} {kd : Nat → CK} (hf : ∀ j, j < N → (kd j).ok (f j)) (hk : ∀ j, j < 32 → kd (off + j) = .u8) (hN : off + 32 ≤ N) : IsR (shF f off) := ok_u8 hf hk hN
theorem byR_is {d : Nat} {l : List Int} (h : ∀ m ∈ l, CK.ok .u8 m) : IsR (byR d l) := fullT_is d (leaf_is (chunks_is h))
theorem is_nil : ∀ r ∈ ([] : List (Nat → Int)), IsR r := fun r hr => by simp at hr
theorem is_cons {a : Nat → Int} {l : List (Nat → Int)} (ha : IsR a) (hl : ∀ r ∈ l, IsR r) : ∀ r ∈ a :: l, IsR r := fun r hr => by
  rcases List.mem_cons.1 hr with h | h
  · rw [h]; exact ha
  · exact hl r h
end Go.Proofs.YtihelknkcomjpaaDoor
namespace Go.Proofs.YtihelknkcomjpaaDoor
open Go.RowKit BigFrame
set_option maxRecDepth 100000
theorem at_box {P : Program} {ops : Array Oper} {Q : Exit → Act → World → Prop} {rest : List Oper} {a : Act} {w : World} {d : Option Tmp} {ty : TypeId} {pos : String} {af : Array Edge} {g : Option (Nat × Bool)} (t : TypeId) {x : Operand} (h : wpList P ops Q (⟨d, .box t x, ty, pos, af, g⟩ :: rest) a w) : wpList P ops Q (⟨d, .box t x, ty, pos, af, g⟩ :: rest) a w := h
theorem at_staddr {P : Program} {ops : Array Oper} {Q : Exit → Act → World → Prop} {rest : List Oper} {a : Act} {w : World} {d : Option Tmp} {ty : TypeId} {pos : String} {af : Array Edge} {g : Option (Nat × Bool)} (t : TypeId) (b k : Nat) {x y : Operand} (hx : a.eval x = .pointer (some ⟨b, k, none⟩)) (h : wpList P ops Q (⟨d, .store t x y, ty, pos, af, g⟩ :: rest) a w) : wpList P ops Q (⟨d, .store t x y, ty, pos, af, g⟩ :: rest) a w := h
theorem wpList_box {P : Program} {ops : Array Oper} {rest : List Oper} {o : Oper} {a : Act} {w : World} {Q : Exit → Act → World → Prop} (hg : o.guard = none) (t : TypeId) (x : Operand) (ho : o.op = .box t x) (C : Array Value) (hx : a.eval x = .agg C)
    (h : wpList P ops Q rest (a.put o.dst (.pointer (some ⟨w.heap.size, 0, none⟩))) (w.alloc (.cells C t))) : wpList P ops Q (o :: rest) a w := by
  refine wpList_plain hg fun K hK => ?_
  unfold Oper.wp execOp
  simp only [ho, hx]
  simp [Instr.box, newVar, newRow, Value.cells]
  exact hK _ _ h
/-- A part: where it lies, its room, its length, its bytes. -/
abbrev Pt := Option Addr × Nat × Nat × List Int
structure RefE (n N : Nat) (kd : Nat → CK) (f : Nat → Int) (t : TypeId) (ps : List Pt) (w W : World) : Prop extends Box n N kd f t w W where
  hP : ∀ p ∈ ps, SlB p.1 p.2.1 p.2.2.2 W ∧ p.2.2.2.length = p.2.2.1
def vsOf (ps : List Pt) : List Value := ps.map fun p => .slice p.1 p.2.2.1 p.2.1
def msOf (ps : List Pt) : List (List Int) := ps.map fun p => p.2.2.2
section
variable {n N : Nat} {kd : Nat → CK} {f : Nat → Int} {t : TypeId} {ps : List Pt} {w W W' : World}
theorem RefE.later (h : RefE n N kd f t ps w W) (hb : Below W.heap.size W W') : RefE n N kd f t ps w W' :=
  ⟨h.toBox.later (hb.mono (by have := block_lt h.hX; omega)), fun p hp => ⟨(h.hP p hp).1.later hb, (h.hP p hp).2⟩⟩
theorem RefE.add (h : RefE n N kd f t ps w W) {va : Option Addr} {c k : Nat} {m : List Int} (hs : SlB va c m W) (hk : m.length = k) : RefE n N kd f t (ps ++ [(va, c, k, m)]) w W :=
  ⟨h.toBox, fun p hp => by
    rcases List.mem_append.1 hp with hp | hp
    · exact h.hP p hp
    · rw [List.mem_singleton.1 hp]; exact ⟨hs, hk⟩⟩
theorem RefE.num (h : RefE n N kd f t ps w W) (m : Int) :
    Calls Tryd.prog 90 #[.int .u64 m] W fun e w' => ∃ va c, e = .returned (.slice va 8 c) ∧ RefE n N kd f t (ps ++ [(va, c, 8, numL m)]) w w' :=
  (number_any m W).mono fun _ _ ⟨⟨va, c, h1, h2, h3⟩, h4⟩ => ⟨va, c, h1, (h.later h4).add (SlB.of_own h3 (numL_ok m) h2) (numL_length m)⟩
theorem RefE.own (h : RefE n N kd f t ps w W) {v : Value} {m : List Int} {k : Nat} (h1 : OwnB W.heap.size v ([] ++ m) W') (hb : Below W.heap.size W W') (hm : ∀ x ∈ m, CK.ok .u8 x) (hk : m.length = k) : ∃ va c, v = .slice va k c ∧ RefE n N kd f t (ps ++ [(va, c, k, m)]) w W' := by
  rw [List.nil_append] at h1
  obtain ⟨va, c, e, hv⟩ := own_form h1
  rw [hk] at e
  subst e
  exact ⟨va, c, rfl, (h.later hb).add (SlB.of_own h1 hm hv) hk⟩
theorem RefE.begin (h1 : (w.alloc (.cells (fcells N kd f).toArray t)).heap[n]? = some (.cells (fcells N kd f).toArray t (0, 0))) (hn : w.heap.size = n) : RefE n N kd f t [] w (w.alloc (.cells (fcells N kd f).toArray t)) := by
  subst hn
  exact ⟨⟨h1, (Below.refl _ _).alloc (Nat.le_refl _) _⟩, fun p hp => by simp at hp⟩
theorem vsOf_flat : ∀ (ps : List Pt), ((vsOf ps).map fun v => v.cells.toList).flatten = vsOf ps
  | [] => rfl
  | p :: ps => by
    have ih := vsOf_flat ps
    show [Value.slice p.1 p.2.2.1 p.2.1] ++ ((vsOf ps).map fun v => v.cells.toList).flatten = _
    rw [ih]
    rfl
theorem RefE.parts (h : RefE n N kd f t ps w W) : RefE n N kd f t ps w (W.alloc (.cells ((vsOf ps).map fun v => v.cells.toList).flatten.toArray 34)) ∧ PartsAt W.heap.size (msOf ps) (W.alloc (.cells ((vsOf ps).map fun v => v.cells.toList).flatten.toArray 34)) := by
  have hb : Below W.heap.size W (W.alloc (.cells ((vsOf ps).map fun v => v.cells.toList).flatten.toArray 34)) := (Below.refl _ _).alloc (Nat.le_refl _) _
  have h2 := h.later hb
  refine ⟨h2, vsOf ps, by rw [heap_new _ _ _ _ rfl, vsOf_flat], by simp [vsOf, msOf], fun i hi => ?_⟩
  have hi' : i < ps.length := by simpa [msOf] using hi
  obtain ⟨hs, hk⟩ := h2.hP (ps[i]) (List.getElem_mem hi')
  have e : (msOf ps).getD i [] = (ps[i]).2.2.2 := by simp [msOf, List.getD, hi']
  rw [e]
  exact ⟨(ps[i]).1, (ps[i]).2.1, by simp [vsOf, hi', hk], hs.row, hs.nil, hs.low⟩
theorem PartsAt.later {g : Nat} {qs : List (List Int)} (h : PartsAt g qs W) (hb : Below W.heap.size W W') : PartsAt g qs W' := by
  obtain ⟨vs, h1, h2, h3⟩ := h
  refine ⟨vs, (hb.block g (block_lt h1)).trans h1, h2, fun i hi => ?_⟩
  obtain ⟨va, c, h4, h5, h6, h7⟩ := h3 i hi
  exact ⟨va, c, h4, h5.later hb, h6, fun b o e => Nat.lt_of_lt_of_le (h7 b o e) hb.size⟩
def zsV (zs : List Nat) : List Value := zs.map fun z : Nat => .int .i64 (z : Int)
theorem zsV_flat : ∀ (zs : List Nat), ((zsV zs).map fun v => v.cells.toList).flatten = zsV zs
  | [] => rfl
  | z :: zs => by
    have ih := zsV_flat zs
    show [Value.int .i64 (z : Int)] ++ ((zsV zs).map fun v => v.cells.toList).flatten = _
    rw [ih]
    rfl
theorem zsV_at (zs : List Nat) (W : World) : IntsAt W.heap.size zs (W.alloc (.cells ((zsV zs).map fun v => v.cells.toList).flatten.toArray 3)) := by
  unfold IntsAt
  rw [heap_new _ _ _ _ rfl, zsV_flat]
  rfl
/-- Lay, where the parts have just the sizes. -/
theorem RefE.lay (h : RefE n N kd f t ps w W) {gp gs k S : Nat} {L : List Int} (hP : PartsAt gp (msOf ps) W) (zs : List Nat) (hZ : IntsAt gs zs W) (hk : ps.length = k) (h1 : 1 ≤ k) (h64 : k ≤ 64) (hfit : (msOf ps).map List.length = zs) (hz0 : ∀ z ∈ zs, z ≠ 0 ∧ z ≤ 65536) (hL : (msOf ps).flatten = L) (hS : L.length = S) (hS2 : S ≤ 1099511627776) :
    Calls Tryd.prog 46 #[.slice (some ⟨gp, 0, none⟩) k k, .slice (some ⟨gs, 0, none⟩) k k] W fun e w' => (∃ va c, e = .returned (.tuple #[.slice va S c, .int .i64 0]) ∧ (va = none → c = 0) ∧ OwnB n (.slice va S c) L w') ∧ Below n w w' := by
  subst hS
  subst hL
  have hml : (msOf ps).length = k := by simp [msOf, hk]
  refine (lay_any gp gs (msOf ps) zs k k k W hP hZ hml (by rw [← hfit, List.length_map]; exact hml) h1 h64 (fun z hz => (hz0 z hz).2) (fun i hi => ?_) hS2 (fun p hp => ?_)).mono fun _ _ ⟨⟨va, c, h1, h2, h3⟩, h4⟩ => ⟨⟨va, c, h1, h2, own_mono h3 ?_⟩, h.hB.trans (h4.mono ?_)⟩
  · have hi' : i < (msOf ps).length := by omega
    have e : zs.getD i 0 = ((msOf ps).getD i []).length := by rw [← hfit]; simp [List.getD, hi']
    refine ⟨(hz0 _ ?_).1, e.symm⟩
    have hi2 : i < zs.length := by rw [← hfit, List.length_map]; exact hi'
    simp [List.getD, hi2]
  · obtain ⟨q, hq, rfl⟩ := List.mem_map.1 hp
    exact (h.hP q hq).1.row.ok
  · have := block_lt h.hX; omega
  · have := block_lt h.hX; omega
theorem RefE.lay2 (h : RefE n N kd f t ps w W) {k S : Nat} {L : List Int} {V Z : Array Value} (zs : List Nat) (hV : V = (vsOf ps).toArray) (hZ : Z = (zsV zs).toArray) (hk : ps.length = k) (h1 : 1 ≤ k) (h64 : k ≤ 64) (hfit : (msOf ps).map List.length = zs) (hz0 : ∀ z ∈ zs, z ≠ 0 ∧ z ≤ 65536) (hL : (msOf ps).flatten = L) (hS : L.length = S) (hS2 : S ≤ 1099511627776) :
    Calls Tryd.prog 46 #[.slice (some ⟨W.heap.size, 0, none⟩) k k, .slice (some ⟨W.heap.size + 1, 0, none⟩) k k] ((W.alloc (.cells V 34)).alloc (.cells Z 3)) fun e w' => (∃ va c, e = .returned (.tuple #[.slice va S c, .int .i64 0]) ∧ (va = none → c = 0) ∧ OwnB n (.slice va S c) L w') ∧ Below n w w' := by
  subst hV
  subst hZ
  have hp := h.parts
  rw [vsOf_flat] at hp
  have hz := zsV_at zs (W.alloc (.cells (vsOf ps).toArray 34))
  rw [zsV_flat, World.size_alloc] at hz
  have hb : Below (W.alloc (.cells (vsOf ps).toArray 34)).heap.size (W.alloc (.cells (vsOf ps).toArray 34)) ((W.alloc (.cells (vsOf ps).toArray 34)).alloc (.cells (zsV zs).toArray 3)) := (Below.refl _ _).alloc (Nat.le_refl _) _
  exact (hp.1.later hb).lay (hp.2.later hb) zs hz hk h1 h64 hfit hz0 hL hS hS2
end
/-! Hashers. -/
/-- Block g, of whatever array type, holds K roots. -/
def RootsT (t : TypeId) (g K : Nat) (F : Nat → Nat → Int) (W : World) : Prop :=
  ∃ C : Array Value, W.heap[g]? = some (.cells C t (0, 0)) ∧ C.size = K * 32 ∧ ∀ i, i < K → ∀ j, j < 32 → C[32 * i + j]? = some (.int .u8 (F i j))
theorem RootsT.block {t : TypeId} {g K : Nat} {F : Nat → Nat → Int} {W W' : World} (h : RootsT t g K F W) (he : W'.heap[g]? = W.heap[g]?) : RootsT t g K F W' := by
  obtain ⟨C, h1, h2⟩ := h
  exact ⟨C, he.trans h1, h2⟩
theorem RootsT.row {t : TypeId} {g K : Nat} {rs : List (Nat → Int)} {W : World} (h : RootsT t g K (leaf rs) W) (hK : rs.length ≤ K) (his : ∀ r ∈ rs, IsR r) : RowR W (some ⟨g, 0, none⟩) rs := by
  obtain ⟨C, h1, h2, h3⟩ := h
  refine ⟨fun i hi => ⟨g, 0, rfl, fun j v hv => ?_⟩, his⟩
  have hj : j < 32 := by have := (List.getElem?_eq_some_iff.1 hv).1; rwa [fcells_length] at this
  rw [fcells_get _ _ _ _ hj] at hv
  rw [cell_of_row W g _ _ _ _ h1, Nat.zero_add, h3 i (by omega) j hj]
  exact hv
theorem leaf_app (rs : List (Nat → Int)) (r : Nat → Int) (i : Nat) : leaf (rs ++ [r]) i = if i = rs.length then r else leaf rs i := by
  unfold leaf
  simp only [List.getD]
  by_cases c : i < rs.length
  · rw [List.getElem?_append_left c, if_neg (by omega)]
  · rw [List.getElem?_append_right (by omega)]
    by_cases e : i = rs.length
    · subst e; simp
    · rw [if_neg e, List.getElem?_eq_none (l := rs) (by omega), List.getElem?_eq_none (by simp; omega)]
structure RefR (n N : Nat) (kd : Nat → CK) (f : Nat → Int) (t tc : TypeId) (K : Nat) (rs : List (Nat → Int)) (w W : World) : Prop extends Box n N kd f t w W where
  hR : W.heap[n + 1]? = some (.cells zr 23 (0, 0))
  hC : RootsT tc (n + 1 + 1) K (leaf rs) W
  is : ∀ r ∈ rs, IsR r
  hT : Tabs W
  h3 : 3 ≤ n
section
variable {n N : Nat} {kd : Nat → CK} {f : Nat → Int} {t tc : TypeId} {K : Nat} {rs : List (Nat → Int)} {w W W' : World}
theorem RefR.size (h : RefR n N kd f t tc K rs w W) : n + 3 ≤ W.heap.size := by
  obtain ⟨C, h1, _⟩ := h.hC
  have := block_lt h1
  omega
theorem RefR.later (h : RefR n N kd f t tc K rs w W) (hb : Below W.heap.size W W') : RefR n N kd f t tc K rs w W' := by
  have hs := h.size
  exact ⟨h.toBox.later (hb.mono (by omega)), (hb.block _ (by omega)).trans h.hR, h.hC.block (hb.block _ (by omega)), h.is, h.hT.below (by have := h.h3; omega) hb, h.h3⟩
theorem RefR.begin {C : Array Value} (h1 : (w.alloc (.cells (fcells N kd f).toArray t)).heap[n]? = some (.cells (fcells N kd f).toArray t (0, 0))) (hn : w.heap.size = n) (hT : Tabs w) (hC : C.size = K * 32) (hz : ∀ i, i < K * 32 → C[i]? = some (.int .u8 0)) :
    RefR n N kd f t tc K [] w (((w.alloc (.cells (fcells N kd f).toArray t)).alloc (.cells zr 23)).alloc (.cells C tc)) := by
  subst hn
  have hb : Below w.heap.size w (((w.alloc (.cells (fcells N kd f).toArray t)).alloc (.cells zr 23)).alloc (.cells C tc)) := (((Below.refl _ _).alloc (Nat.le_refl _) _).alloc (by simp) _).alloc (by simp; omega) _
  exact ⟨⟨heap_past _ _ _ _ (heap_past _ _ _ _ h1), hb⟩, heap_past _ _ _ _ (heap_new _ _ _ _ (by simp)), ⟨C, heap_new _ _ _ _ (by simp), hC, fun i hi j hj => by rw [hz (32 * i + j) (by omega), leaf_nil]; rfl⟩, (fun r hr => by simp at hr), hT.below hT.size hb, hT.size⟩
theorem RefR.num (h : RefR n N kd f t tc K rs w W) (m : Int) :
    Calls Tryd.prog 90 #[.int .u64 m] W fun e w' => ∃ va c, e = .returned (.slice va 8 c) ∧ SlB va c (numL m) w' ∧ RefR n N kd f t tc K rs w w' :=
  (number_any m W).mono fun _ _ ⟨⟨va, c, h1, h2, h3⟩, h4⟩ => ⟨va, c, h1, SlB.of_own h3 (numL_ok m) h2, h.later h4⟩
theorem RefR.chunk (h : RefR n N kd f t tc K rs w W) (l : List Int) (va : Option Addr) (c k : Nat) (hl : SlB va c l W) (hk : l.length = k) (h1 : 1 ≤ k) (h2 : k ≤ 32) :
    Calls Tryd.prog 95 #[.slice va k c] W fun e w' => e = .returned (.agg (rootV (chunkL l 0))) ∧ RefR n N kd f t tc K rs w w' := by
  subst hk
  exact (chunk_any l va c W hl.row hl.low h1 h2 h.hT).mono fun _ _ ⟨h3, h4⟩ => ⟨h3, h.later h4⟩
theorem Box.sl (h : Box n N kd f t w W) (off len : Nat) (hk : ∀ j, j < len → kd (off + j) = .u8) (hN : off + len ≤ N) (hok : ∀ j, j < N → (kd j).ok (f j)) : SlB (some ⟨n, off, none⟩) len (byL f off len) W :=
  ⟨h.row off len hk hN hok, (fun e => by cases e), by rw [byL_length]; exact Nat.le_refl _, fun b o e => by cases e; exact block_lt h.hX⟩
theorem RefR.pack (h : RefR n N kd f t tc K rs w W) (l : List Int) (va : Option Addr) (c k q : Nat) (hl : SlB va c l W) (hk : l.length = k) (hq : (k + 31) / 32 = q) (h1 : 1 ≤ k) (h2 : k ≤ 100000) :
    Calls Tryd.prog 71 #[.slice va k c] W fun e w' => ∃ va' c', e = .returned (.slice va' q c') ∧ RowR w' va' (chunks l) ∧ (∀ b o, va' = some ⟨b, o, none⟩ → b < w'.heap.size) ∧ q ≤ c' ∧ RefR n N kd f t tc K rs w w' := by
  subst hk
  refine (rpack_any l va c W hl.row hl.low (by omega)).mono fun _ _ ⟨⟨va', c', h3, h4⟩, h5⟩ => ?_
  have hq' : (chunks l).length = q := by rw [chunks_length, hq]
  obtain ⟨g, cap, e, hg, hR⟩ := roots_of_own h4 (by omega)
  injection e with e1 e2 e3
  subst e1
  subst e3
  have hc := hR.choose_spec.2.2.1
  rw [hq'] at hR hc h3
  exact ⟨_, _, h3, hR.row (chunks l) (by omega) (fun _ _ => rfl) (chunks_is hl.row.ok), (fun b o e => by cases e; exact hR.lt), hc, h.later h5⟩
theorem RefR.must (h : RefR n N kd f t tc K rs w W) (l : List Int) (va : Option Addr) (c q d : Nat) (m : Int) (hl : RowR W va (chunks l)) (hlow : ∀ b o, va = some ⟨b, o, none⟩ → b < W.heap.size) (hc : q ≤ c) (hq : (l.length + 31) / 32 = q) (hm : m = (q : Int)) (hd : Dep q d) (hd40 : d ≤ 40) :
    Calls Tryd.prog 47 #[.slice va q c, .int .i64 m] W fun e w' => e = .returned (.agg (rootV (byR d l))) ∧ RefR n N kd f t tc K rs w w' := by
  subst hm
  exact (must_any (chunks l) q q d va c W (by rw [chunks_length, hq]) (Nat.le_refl _) hd hd40 hl hlow hc h.hT).mono fun _ _ ⟨h3, h4⟩ => ⟨h3, h.later h4⟩
theorem RefR.last (h : RefR n N kd f t tc K rs w W) (d : Nat) (m : Int) (hm : m = (K : Int)) (hK : rs.length = K) (hd : Dep K d) (hd40 : d ≤ 40) :
    Calls Tryd.prog 47 #[.slice (some ⟨n + 1 + 1, 0, none⟩) K K, .int .i64 m] W fun e w' => e = .returned (.agg (rootV (fullT d (leaf rs)))) ∧ Below n w w' ∧ w'.heap[n + 1]? = some (.cells zr 23 (0, 0)) := by
  subst hm
  have hs := h.size
  exact (must_any rs K K d _ K W hK (Nat.le_refl _) hd hd40 (h.hC.row (by omega) h.is) (fun b o e => by cases e; omega) (Nat.le_refl _) h.hT).mono fun _ _ ⟨h3, h4⟩ => ⟨h3, h.hB.trans (h4.mono (by omega)), (h4.block _ (by omega)).trans h.hR⟩
/-- The next root is laid. -/
theorem wpList_rootT {ops : Array Oper} {rest : List Oper} {o : Oper} {a : Act} {Q : Exit → Act → World → Prop} (hg : o.guard = none) (x y : Operand) (ho : o.op = .store 23 x y) (i : Nat) (r : Nat → Int) (hx : a.eval x = .pointer (some ⟨n + 1 + 1, 32 * i, none⟩)) (hy : a.eval y = .agg (rootV r)) (h : RefR n N kd f t tc K rs w W) (hi : rs.length = i) (hK : i < K) (hr : IsR r)
    (hk : ∀ W', RefR n N kd f t tc K (rs ++ [r]) w W' → wpList Tryd.prog ops Q rest (a.put o.dst undef) W') : wpList Tryd.prog ops Q (o :: rest) a W := by
  obtain ⟨C, h1, h2, h3⟩ := h.hC
  have hs := h.size
  have ht : W.there (n + 1 + 1) (32 * i) (rootV r).size := fun j hj => by
    have hj : j < 32 := by simpa [fcells] using hj
    refine ⟨?_, Joins.unfrozen_of_block h1 _⟩
    rw [cell_of_row W (n + 1 + 1) _ C _ _ h1, h3 i hK j hj]
    rfl
  refine wpList_plain hg fun Kc hKc => wp_store_mid 23 x y ho (n + 1 + 1) (32 * i) (rootV r) hx hy ht (by rw [row_size row_root]; simp [fcells]) (fcells_one _ _ _) (hKc _ _ (hk _ ?_))
  have hA : Apart (n + 1 + 1) W (W.setCells (n + 1 + 1) (32 * i) (rootV r).toList) := (Apart.refl _ _).setCells _ _ _ (Or.inl rfl)
  obtain ⟨C', h5, h6⟩ := splice_setCells (n + 1 + 1) (rootV r).toList (32 * i) W C _ h1
  have hsame := World.rangeAt_setCells_same W (n + 1 + 1) (32 * i) (rootV r).toList (by simpa using ht)
  have hB2 : Below n w (W.setCells (n + 1 + 1) (32 * i) (rootV r).toList) := hA.below h.hB (by omega) (by omega)
  refine ⟨⟨(hA.block n (by omega) (by omega)).trans h.hX, hB2⟩, (hA.block _ (by omega) (by omega)).trans h.hR, ⟨C', h5, h6.trans h2, fun i' hi' j hj => ?_⟩, fun q hq => ?_, ?_, h.h3⟩
  · rw [← cell_of_row _ (n + 1 + 1) (32 * i' + j) C' _ _ h5, leaf_app, hi]
    by_cases e : i' = i
    · subst e
      rw [if_pos rfl]
      exact hsame j _ (fcells_get 32 (fun _ => .u8) r j hj)
    · rw [if_neg e, World.cell?_setCells_out (n + 1 + 1) _ _ W ⟨n + 1 + 1, 32 * i' + j, none⟩ (fun _ _ => by simp [fcells]; omega), cell_of_row W (n + 1 + 1) _ C _ _ h1]
      exact h3 i' hi' j hj
  · rcases List.mem_append.1 hq with hq | hq
    · exact h.is q hq
    · rw [List.mem_singleton.1 hq]; exact hr
  · exact h.hT.below (by have := h.h3; omega) (hA.below (Below.refl (n + 1 + 1) W) (Nat.le_refl _) (by omega))
end
theorem rep_get (n i : Nat) (h : i < n) : (rep n)[i]? = some (.int .u8 0) := by
  rw [List.getElem?_toArray, List.getElem?_replicate, if_pos h]
end Go.Proofs.YtihelknkcomjpaaDoor
