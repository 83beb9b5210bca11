/- What the law of a type keeps: boxes, slices of bytes, and what else must stand. -/
import Derived.Test.YtihelknkcomjpaaDoorJLwB
set_option linter.unusedVariables false
set_option linter.unusedSimpArgs false
set_option linter.unnecessarySimpa false
namespace Go.Proofs.YtihelknkcomjpaaDoor
open Go.RowKit BigFrame
set_option maxRecDepth 100000
structure LawH (n : Nat) (w : World) (bs : List (Nat × Array Value × TypeId)) (ss : List Pt) (Hs : List (World → Prop)) (W : World) : Prop extends Law n w bs ss W where
  hH : ∀ H ∈ Hs, H W ∧ ∀ W1 W2, H W1 → Below W1.heap.size W1 W2 → H W2
section
variable {n : Nat} {w W W' : World} {bs : List (Nat × Array Value × TypeId)} {ss : List Pt} {Hs : List (World → Prop)}
theorem LawH.start {w : World} (hT : Tabs w) : LawH w.heap.size w [] [] [] w := ⟨Law.start hT, fun p hp => by simp at hp⟩
theorem LawH.later (h : LawH n w bs ss Hs W) (hb : Below W.heap.size W W') : LawH n w bs ss Hs W' := ⟨h.toLaw.later hb, fun H hH => ⟨(h.hH H hH).2 _ _ (h.hH H hH).1 hb, (h.hH H hH).2⟩⟩
theorem LawH.addB (h : LawH n w bs ss Hs W) (C : Array Value) (t : TypeId) : LawH n w (bs ++ [(W.heap.size, C, t)]) ss Hs (W.alloc (.cells C t)) :=
  ⟨h.toLaw.addB C t, (h.later ((Below.refl _ _).alloc (Nat.le_refl _) _)).hH⟩
theorem LawH.addS (h : LawH n w bs ss Hs W) {va : Option Addr} {c k : Nat} {m : List Int} (hs : SlB va c m W) (hk : m.length = k) : LawH n w bs (ss ++ [(va, c, k, m)]) Hs W := ⟨h.toLaw.addS hs hk, h.hH⟩
theorem LawH.addH (h : LawH n w bs ss Hs W) {H : World → Prop} (h1 : H W) (h2 : ∀ W1 W2, H W1 → Below W1.heap.size W1 W2 → H W2) : LawH n w bs ss (Hs ++ [H]) W :=
  ⟨h.toLaw, fun G hG => by
    rcases List.mem_append.1 hG with hG | hG
    · exact h.hH G hG
    · rw [List.mem_singleton.1 hG]; exact ⟨h1, h2⟩⟩
theorem LawH.get (h : LawH n w bs ss Hs W) (i : Nat) {H : World → Prop} (hi : Hs[i]? = some H) : H W := (h.hH H (List.mem_of_getElem? hi)).1
end
end Go.Proofs.YtihelknkcomjpaaDoor
