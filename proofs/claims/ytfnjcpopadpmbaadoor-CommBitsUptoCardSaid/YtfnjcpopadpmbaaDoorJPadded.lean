/- block of the reference: a block more; its words, its schedule, its rounds. -/
/- block of the reference: the rounds, and the whole. -/
/- Slices of bytes that the call itself makes: what append leaves. -/
/- Padded of the reference: a message and what is laid behind it. -/
import Derived.Test.YtfnjcpopadpmbaaDoorJTwo
import Derived.Laws.AppendOwnNone
set_option linter.unusedVariables false
set_option linter.unusedSimpArgs false
set_option linter.unnecessarySimpa false
namespace Go.Proofs.YtfnjcpopadpmbaaDoor
open Go.RowKit BigFrame
set_option maxRecDepth 100000
/-- The words of a schedule in the making. -/
def Words64 (n : Nat) (M : Nat → W32) (k : Nat) (w wr : World) : Prop :=
  ∃ C : Array Value, wr.heap[n]? = some (.cells C 123 (0, 0)) ∧ C.size = 64 ∧ (∀ j, j < k → C[j]? = some (.int .u32 (wi (M j)))) ∧ Below n w wr
theorem Words64.step {n : Nat} {M : Nat → W32} {k : Nat} {w wr : World} {C : Array Value} (hC : wr.heap[n]? = some (.cells C 123 (0, 0))) (hs : C.size = 64) (hw : ∀ j, j < k → C[j]? = some (.int .u32 (wi (M j)))) (hk : k < 64) (hb : Below n w wr) :
    Words64 n M (k + 1) w (wr.setCell ⟨n, k, none⟩ (.int .u32 (wi (M k)))) := by
  refine ⟨C.setIfInBounds k (.int .u32 (wi (M k))), Joins.block_setCell hC _, by simp [hs], fun j hj => ?_, hb.setCell (by simp) _⟩
  by_cases e : j = k
  · subst e
    simp [hs, hk]
  · rw [Array.getElem?_setIfInBounds_ne (Ne.symm e)]
    exact hw j (by omega)
end Go.Proofs.YtfnjcpopadpmbaaDoor
namespace Go.Proofs.YtfnjcpopadpmbaaDoor
open Go.RowKit BigFrame
set_option maxRecDepth 100000
end Go.Proofs.YtfnjcpopadpmbaaDoor
namespace Go.Proofs.YtfnjcpopadpmbaaDoor
open Go.RowKit BigFrame
set_option maxRecDepth 100000
/-- v is a slice of the call's own (blocks from base on) that holds the bytes l. -/
def OwnB (base : Nat) (v : Value) (l : List Int) (w : World) : Prop := w.ownsRow base 5 1 v l.length (l.map (Value.int .u8))
theorem OwnB.later {base : Nat} {v : Value} {l : List Int} {w w' : World} (h : OwnB base v l w) (hb : Below w.heap.size w w') : OwnB base v l w' := by
  refine ⟨h.1, ?_⟩
  rcases h.2 with hn | ⟨g, cap, cur, h1, h2, h3, h4⟩
  · exact Or.inl hn
  · exact Or.inr ⟨g, cap, cur, h1, h2, (hb.block g (by
      by_cases c : g < w.heap.size
      · exact c
      · simp [Array.getElem?_eq_none (Nat.le_of_not_lt c)] at h3)).trans h3, h4⟩
theorem OwnB.row {base : Nat} {v : Value} {l : List Int} {w : World} (h : OwnB base v l w) (hl : ∀ n ∈ l, CK.ok .u8 n) : ∃ va c, v = .slice va l.length c ∧ Row w va .u8 l ∧ l.length ≤ c := by
  rcases h.2 with ⟨h1, h2⟩ | ⟨g, cap, cur, h1, h2, h3, h4, h5, h6, h7⟩
  · have hl0 : l = [] := List.eq_nil_of_length_eq_zero h2
    subst hl0
    exact ⟨none, 0, by simpa using h1, ⟨fun i hi => absurd hi (by simp), hl⟩, by simp⟩
  · refine ⟨some ⟨g, 0, none⟩, cap, h1, ⟨fun i hi => ⟨g, 0, rfl, ?_⟩, hl⟩, h4⟩
    rw [cell_of_row w g (0 + i) cur _ _ h3, Nat.zero_add]
    have e : (cur.toList.take (l.length * 1))[i]? = some (.int .u8 (l.getD i 0)) := by
      rw [h7]
      simp [List.getD, hi]
    rw [List.getElem?_take_of_lt (by omega)] at e
    simpa [CK.mk] using e
theorem OwnB.nil (base : Nat) (w : World) : OwnB base (.slice none 0 0) [] w := ⟨rfl, Or.inl ⟨rfl, rfl⟩⟩
theorem OwnB.new {base : Nat} {w : World} {k : Nat} (hk : base ≤ k) (l : List Int) (hl : l.length ≤ maxLen) (h : w.heap[k]? = some (.cells (l.map (Value.int .u8)).toArray 5 (0, 0))) : OwnB base (.slice (some ⟨k, 0, none⟩) l.length l.length) l w :=
  ⟨by simp, Or.inr ⟨k, l.length, _, rfl, hk, h, Nat.le_refl _, hl, by simp, by simp [List.take_of_length_le]⟩⟩
end Go.Proofs.YtfnjcpopadpmbaaDoor
namespace Go.Proofs.YtfnjcpopadpmbaaDoor
open Go.RowKit BigFrame
set_option maxRecDepth 100000
theorem OwnB.len {base : Nat} {v : Value} {l : List Int} {w : World} (h : OwnB base v l w) : ∃ va c, v = .slice va l.length c := by
  rcases h.2 with ⟨h1, h2⟩ | ⟨g, cap, cur, h1, _⟩
  · exact ⟨none, 0, by rw [h2]; exact h1⟩
  · exact ⟨_, _, h1⟩
end Go.Proofs.YtfnjcpopadpmbaaDoor
