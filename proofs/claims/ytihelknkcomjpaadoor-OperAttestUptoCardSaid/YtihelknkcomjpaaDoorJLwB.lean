/- The laws of the containers: what all have in common. -/
import Derived.Test.YtihelknkcomjpaaDoorJLawS
set_option linter.unusedVariables false
set_option linter.unusedSimpArgs false
set_option linter.unnecessarySimpa false
namespace Go.Proofs.YtihelknkcomjpaaDoor
open Go.RowKit BigFrame
set_option maxRecDepth 100000
theorem Law.start {w : World} (hT : Tabs w) : Law w.heap.size w [] [] w := ⟨Below.refl _ _, Nat.le_refl _, (fun p hp => by simp at hp), (fun p hp => by simp at hp), hT⟩
theorem getD_app (l : List Int) (x : Int) (j : Nat) (h : j < l.length) : (l ++ [x]).getD j 0 = l.getD j 0 := by
  simp only [List.getD, List.getElem?_append_left h]
/-- A slice's first elements. -/
theorem SlB.pre {g c : Nat} {l : List Int} {x : Int} {W : World} (h : SlB (some ⟨g, 0, none⟩) c (l ++ [x]) W) : SlB (some ⟨g, 0, none⟩) c l W := by
  refine ⟨⟨fun j hj => ?_, fun m hm => h.row.ok m (by simp [hm])⟩, h.nil, by have := h.cap; simp at this; omega, h.low⟩
  obtain ⟨b, o, e, hc⟩ := h.row.cell j (by simp; omega)
  exact ⟨b, o, e, by rw [hc, getD_app l x j hj]⟩
theorem SlB.last {g c : Nat} {l : List Int} {x : Int} {W : World} (h : SlB (some ⟨g, 0, none⟩) c (l ++ [x]) W) : W.cell? ⟨g, l.length, none⟩ = some (.int .u8 x) := by
  obtain ⟨b, o, e, hc⟩ := h.row.cell l.length (by simp)
  cases e
  rw [Nat.zero_add] at hc
  rw [hc]
  simp [List.getD, CK.mk]
theorem SlB.own1 {base : Nat} {v : Value} {l : List Int} {x : Int} {W : World} (h : OwnB base v (l ++ [x]) W) (hl : ∀ m ∈ l, CK.ok .u8 m) (hx : CK.ok .u8 x) : ∃ g c, v = .slice (some ⟨g, 0, none⟩) (l.length + 1) c ∧ l.length + 1 ≤ c ∧ SlB (some ⟨g, 0, none⟩) c (l ++ [x]) W := by
  have hok : ∀ m ∈ l ++ [x], CK.ok .u8 m := fun m hm => by
    rcases List.mem_append.1 hm with hm | hm
    · exact hl m hm
    · rw [List.mem_singleton.1 hm]; exact hx
  obtain ⟨b, c, e, _, hc, hr⟩ := own_at1 h hok (by simp)
  have hlen : (l ++ [x]).length = l.length + 1 := by simp
  rw [hlen] at e hc
  subst e
  exact ⟨b, c, rfl, hc, hr, (fun e => by cases e), by rw [hlen]; exact hc, fun b' o' e => by cases e; exact block_lt_own h (by simp)⟩
theorem SlB.lowA {va : Option Addr} {c : Nat} {l : List Int} {W : World} (h : SlB va c l W) (h0 : 0 < l.length) : ∀ ad, va = some ad → ad.block < W.heap.size := fun ad e => by
  obtain ⟨b, o, e2, _⟩ := h.row.cell 0 h0
  rw [e] at e2
  cases e2
  exact h.low b o e
theorem SlB.lowG {g c : Nat} {l : List Int} {W : World} (h : SlB (some ⟨g, 0, none⟩) c l W) : ∀ ad, some (⟨g, 0, none⟩ : Addr) = some ad → ad.block < W.heap.size := fun ad e => by
  cases e
  exact h.low g 0 rfl
theorem eqCells_root (r : Nat → Int) : eqCells (fcells 32 (fun _ => .u8) r) (fcells 32 (fun _ => .u8) r) = !false := eqCells_f 32 _ r
end Go.Proofs.YtihelknkcomjpaaDoor
