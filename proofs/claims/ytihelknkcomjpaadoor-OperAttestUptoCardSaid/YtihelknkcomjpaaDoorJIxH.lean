/- oper.ReadIndexed: where the bytes are no indexed attestation's. -/
/- pharosref08.ReadIndexed: where the bytes are no indexed attestation's. -/
/- Indexed attestations: what any bytes are read as, by the program and by the reference; what is written is read, what is read is written. -/
import Derived.Test.YtihelknkcomjpaaDoorJAw8
import Derived.Test.YtihelknkcomjpaaDoorJReach
import Derived.Test.YtihelknkcomjpaaDoorJHshX
import Derived.Test.YtihelknkcomjpaaDoorKSqData
import Derived.Test.YtihelknkcomjpaaDoorJIxE
import Derived.Test.YtihelknkcomjpaaDoorKSlData
import Derived.Test.YtihelknkcomjpaaDoorJLawS
set_option linter.unusedVariables false
set_option linter.unusedSimpArgs false
set_option linter.unnecessarySimpa false
namespace Go.Proofs.YtihelknkcomjpaaDoor
open Go.RowKit BigFrame
set_option maxRecDepth 100000
end Go.Proofs.YtihelknkcomjpaaDoor
namespace Go.Proofs.YtihelknkcomjpaaDoor
open Go.RowKit BigFrame
set_option maxRecDepth 100000
/-- The result's box, the struct's box. -/
structure RqX (n : Nat) (Z C : List Value) (t : TypeId) (w W : World) : Prop where
  hR : W.heap[n]? = some (.cells Z.toArray t (0, 0))
  hX : W.heap[n + 1]? = some (.cells C.toArray t (0, 0))
  hB : Below n w W
section
variable {n : Nat} {Z C : List Value} {t : TypeId} {w W W' : World}
theorem RqX.size (h : RqX n Z C t w W) : n + 2 ≤ W.heap.size := by
  have := block_lt h.hX
  omega
theorem RqX.later (h : RqX n Z C t w W) (hb : Below W.heap.size W W') : RqX n Z C t w W' := by
  have hs := h.size
  exact ⟨(hb.block n (by omega)).trans h.hR, (hb.block (n + 1) (by omega)).trans h.hX, h.hB.trans (hb.mono (by omega))⟩
theorem RqX.begin {Z0 C0 : Array Value} (hZ : Z0 = Z.toArray) (hC : C0 = C.toArray) (hn : w.heap.size = n) : RqX n Z C t w ((w.alloc (.cells Z0 t)).alloc (.cells C0 t)) := by
  subst hZ
  subst hC
  subst hn
  exact ⟨heap_past _ _ _ _ (heap_new _ _ _ _ rfl), heap_new _ _ _ _ (by simp), ((Below.refl _ _).alloc (Nat.le_refl _) _).alloc (by simp) _⟩
theorem RqX.set {C' : List Value} (h : RqX n Z C t w W) (hA : Apart (n + 1) W W') (hC : W'.heap[n + 1]? = some (.cells C'.toArray t (0, 0))) : RqX n Z C' t w W' := by
  have hs := h.size
  exact ⟨(hA.block n (by omega) (by omega)).trans h.hR, hC, hA.below h.hB (by omega) (by omega)⟩
end
theorem zsAt_idx (W : World) : IntsAt W.heap.size [0, 128, 96] (W.alloc (.cells #[.int .i64 0, .int .i64 128, .int .i64 96] 3)) := by
  have h := zsV_at [0, 128, 96] W
  rw [zsV_flat] at h
  exact h
/-- With the parts that were cut. -/
structure RqP (n : Nat) (Z C : List Value) (t : TypeId) (gp cp : Nat) (ps : List (List Int)) (w W : World) : Prop extends RqX n Z C t w W where
  hP : PartsV (n + 1 + 1) (.slice (some ⟨gp, 0, none⟩) ps.length cp) ps W
section
variable {n : Nat} {Z C : List Value} {t : TypeId} {gp cp : Nat} {ps : List (List Int)} {w W W' : World}
theorem RqP.later (h : RqP n Z C t gp cp ps w W) (hb : Below W.heap.size W W') : RqP n Z C t gp cp ps w W' := ⟨h.toRqX.later hb, h.hP.later hb⟩
theorem RqP.set {C' : List Value} (h : RqP n Z C t gp cp ps w W) (hA : Apart (n + 1) W W') (hC : W'.heap[n + 1]? = some (.cells C'.toArray t (0, 0))) : RqP n Z C' t gp cp ps w W' := ⟨h.toRqX.set hA hC, h.hP.move hA (by omega)⟩
theorem RqP.part (h : RqP n Z C t gp cp ps w W) (i k : Nat) (q : List Int) (hi : i < ps.length) (hq : ps.getD i [] = q) (hk : q.length = k) : ∃ va ci, W.cell? ⟨gp, i, none⟩ = some (.slice va k ci) ∧ SlB va ci q W ∧ ∀ b o, va = some ⟨b, o, none⟩ → n + 1 + 1 ≤ b := by
  obtain ⟨g, c, e, hg, hgs, h2⟩ := h.hP
  injection e with e1 e2 e3
  cases e1
  obtain ⟨va, ci, h3, h4, h5, h6, h7⟩ := h2 i hi
  rw [hq] at h3 h4 h6
  rw [hk] at h3
  exact ⟨va, ci, h3, ⟨h4, h5, h6, fun b o e => (h7 b o e).2⟩, fun b o e => (h7 b o e).1⟩
theorem RqP.of (h : RqX n Z C t w W) {v : Value} {k : Nat} (hk : ps.length = k) (hb : Below W.heap.size W W') (hP : PartsV W.heap.size v ps W') : ∃ gp cp, v = .slice (some ⟨gp, 0, none⟩) k cp ∧ RqP n Z C t gp cp ps w W' := by
  subst hk
  have hs := h.size
  obtain ⟨g, c, e, hg, hgs, h2⟩ := hP
  refine ⟨g, c, e, h.later hb, g, c, rfl, by omega, hgs, fun i hi => ?_⟩
  obtain ⟨va, ci, h3, h4, h5, h6, h7⟩ := h2 i hi
  exact ⟨va, ci, h3, h4, h5, h6, fun b o e => ⟨by have := (h7 b o e).1; omega, (h7 b o e).2⟩⟩
end
/-- A struct is stored into a field. -/
theorem wpList_rowsP {n : Nat} {Z C : List Value} {t : TypeId} {gp cp : Nat} {ps : List (List Int)} {w W : World} {ops : Array Oper} {rest : List Oper} {o : Oper} {a : Act} {Q : Exit → Act → World → Prop} (hg : o.guard = none) (ty : TypeId) (x y : Operand) (ho : o.op = .store ty x y) (off : Nat) (hx : a.eval x = .pointer (some ⟨n + 1, off, none⟩)) (vs : List Value) (hy : a.eval y = .agg vs.toArray) (hz : (Tryd.prog.info? ty).map (·.size) = some vs.length) (h1 : ∀ v ∈ vs, v.oneCell' = true)
    (h : RqP n Z C t gp cp ps w W) (pre mid post : List Value) (hC : C = pre ++ (mid ++ post)) (hp : pre.length = off) (hl : vs.length = mid.length) (hk : ∀ W', RqP n Z (pre ++ (vs ++ post)) t gp cp ps w W' → Apart (n + 1) W W' → wpList Tryd.prog ops Q rest (a.put o.dst undef) W') : wpList Tryd.prog ops Q (o :: rest) a W := by
  subst hC
  have ht : W.there (n + 1) off vs.toArray.size := fun j hj => by
    have hj : j < vs.length := by simpa using hj
    refine ⟨?_, Joins.unfrozen_of_block h.hX _⟩
    rw [cell_of_row W (n + 1) _ _ _ _ h.hX, List.getElem?_toArray, List.getElem?_append_right (by omega), List.getElem?_append_left (by omega), List.getElem?_eq_getElem (by omega)]
    rfl
  refine wpList_plain hg fun Kc hKc => wp_store_mid ty x y ho (n + 1) off _ hx hy ht (by rw [hz]; simp) (by simpa using h1) (hKc _ _ (hk _ ?_ ?_))
  · have hA : Apart (n + 1) W (W.setCells (n + 1) off vs.toArray.toList) := (Apart.refl _ _).setCells _ _ _ (Or.inl rfl)
    have hC := setCells_list (n + 1) vs.toArray.toList off W _ t h.hX (by simp; omega)
    rw [show (pre ++ (mid ++ post)).toArray.toList = pre ++ (mid ++ post) from rfl, show vs.toArray.toList = vs from rfl, splice_mid hp hl] at hC
    exact h.set hA hC
  · exact (Apart.refl _ _).setCells _ _ _ (Or.inl rfl)
theorem cutU_idx {l : List Int} {L k : Nat} (hL : l.length = L) (ho : offL l 0 = 228) (hk : L = 228 + k) : cutU [0, 128, 96] l = [(l.drop 228).take k, (l.drop 4).take 128, (l.drop 132).take 96] := by
  have e : L - 228 = k := by omega
  simp [cutU, partU, cutO, cutA, headN, List.range_succ, ho, hL, e]
theorem fcells_set {N m : Nat} {f g : Nat → Int} {y : Int} (hm : m < N) (hg : ∀ i, i < N → g i = if i = m then y else f i) : (fcells N (fun _ => .u8) f).set m (.int .u8 y) = fcells N (fun _ => .u8) g := by
  apply List.ext_getElem?
  intro i
  rw [List.getElem?_set]
  by_cases hi : i < N
  · rw [fcells_get _ _ _ _ hi, fcells_get _ _ _ _ hi, hg i hi, fcells_length]
    by_cases e : m = i
    · subst e
      rw [if_pos rfl, if_pos hm, if_pos rfl]
      rfl
    · rw [if_neg e, if_neg (fun h => e h.symm)]
  · have e : m ≠ i := by omega
    rw [if_neg e, List.getElem?_eq_none (by rw [fcells_length]; omega), List.getElem?_eq_none (by rw [fcells_length]; omega)]
theorem idxC_set {s : Value} {fd f g : Nat → Int} {m : Nat} {y : Int} (hm : m < 96) (hg : ∀ i, i < 96 → g i = if i = m then y else f i) : (idxC s fd f).toArray.setIfInBounds (101 + m) (.int .u8 y) = (idxC s fd g).toArray := by
  rw [List.setIfInBounds_toArray]
  congr 1
  show ((s :: fcells 100 kdData fd) ++ fcells 96 (fun _ => .u8) f).set (101 + m) _ = (s :: fcells 100 kdData fd) ++ fcells 96 (fun _ => .u8) g
  rw [List.set_append_right _ _ (by simp [fcells_length])]
  congr 1
  rw [show 101 + m - (s :: fcells 100 kdData fd).length = m by simp [fcells_length]]
  exact fcells_set hm hg
def sigUp (l : List Int) (j i : Nat) : Int := if i < j then l.getD (132 + i) 0 else 0
end Go.Proofs.YtihelknkcomjpaaDoor
namespace Go.Proofs.YtihelknkcomjpaaDoor
open Go.RowKit BigFrame
set_option maxRecDepth 100000
/-- The cells of an indexed attestation, its list standing. -/
def RepIdx (who : List Int) (fd fs : Nat → Int) (Y : Array Value) (W : World) : Prop :=
  ∃ vn cn, Y = (idxC (.slice vn who.length cn) fd fs).toArray ∧ Row W vn .u64 who
theorem RepIdx.later {who : List Int} {fd fs : Nat → Int} (Y : Array Value) (W W' : World) (h : RepIdx who fd fs Y W) (hb : Below W.heap.size W W') : RepIdx who fd fs Y W' := by
  obtain ⟨vn, cn, e, h1⟩ := h
  exact ⟨vn, cn, e, h1.later hb⟩
theorem RepIdx.size {who : List Int} {fd fs : Nat → Int} {Y : Array Value} {W : World} (h : RepIdx who fd fs Y W) : Y.size = 197 := by
  obtain ⟨vn, cn, rfl, _⟩ := h
  rw [List.size_toArray, idxC_length]
theorem RepIdx.one {who : List Int} {fd fs : Nat → Int} {Y : Array Value} {W : World} (h : RepIdx who fd fs Y W) : Y.all (·.oneCell') = true := by
  obtain ⟨vn, cn, rfl, _⟩ := h
  exact idxC_one _ _ _ _ _
theorem RepIdx.congr {who : List Int} {fd fs fd' fs' : Nat → Int} {Y : Array Value} {W : World} (h : RepIdx who fd fs Y W) (hd : ∀ j, j < 100 → fd j = fd' j) (hs : ∀ j, j < 96 → fs j = fs' j) : RepIdx who fd' fs' Y W := by
  obtain ⟨vn, cn, e, h1⟩ := h
  refine ⟨vn, cn, ?_, h1⟩
  rw [e]
  unfold idxC
  rw [fcells_congr (N := 100) (kd := kdData) hd, fcells_congr (N := 96) (kd := fun _ => .u8) hs]
theorem row_nil {w : World} {k : CK} : Row w none k [] := ⟨fun i hi => absurd hi (by simp), fun m hm => by simp at hm⟩
/-! What is written is read, what is read is written. -/
theorem four_bytes {l : List Int} (hok : ∀ x ∈ l, CK.ok .u8 x) (hl : 4 ≤ l.length) (n : Nat) (ho : offL l 0 = n) : l.take 4 = le4 (n : Int) := by
  have h1 := offL_is hok 0
  rw [ho] at h1
  simp only [rdI, Nat.zero_add] at h1
  have b := fun i => list_isB hok i
  have b0 := b 0; have b1 := b 1; have b2 := b 2; have b3 := b 3
  unfold IsB at b0 b1 b2 b3
  have e0 : l.getD 0 0 = leB n 0 := by unfold leB; omega
  have e1 : l.getD 1 0 = leB n 1 := by unfold leB; omega
  have e2 : l.getD 2 0 = leB n 2 := by unfold leB; omega
  have e3 : l.getD 3 0 = leB n 3 := by unfold leB; omega
  apply List.ext_getElem?
  intro i
  by_cases hi : i < 4
  · have hg : (l.take 4)[i]? = some (l.getD i 0) := by
      rw [List.getElem?_take_of_lt hi, List.getElem?_eq_getElem (by omega)]
      simp [List.getD, show i < l.length by omega]
    rw [hg]
    match i, hi with
    | 0, _ => exact congrArg some e0
    | 1, _ => exact congrArg some e1
    | 2, _ => exact congrArg some e2
    | 3, _ => exact congrArg some e3
  · rw [List.getElem?_eq_none (by rw [List.length_take]; omega), List.getElem?_eq_none (by rw [le4_length]; omega)]
end Go.Proofs.YtihelknkcomjpaaDoor
