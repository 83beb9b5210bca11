/- A rising list that is put together of two rising lists: how one walks all three. -/
/- The first loop of the law CommBits: three lists of bits. -/
import Derived.Test.YtfnjcpopadpmbaaDoorKCbA
import Derived.Test.YtfnjcpopadpmbaaDoorKCmT
set_option linter.unusedVariables false
set_option linter.unusedSimpArgs false
set_option linter.unnecessarySimpa false
namespace Go.Proofs.YtfnjcpopadpmbaaDoor
open Go.RowKit BigFrame
set_option maxRecDepth 100000
/-- Of c the first k are gone, of a the first i, of b the others. -/
structure Mrg (a b c : List Int) (i k : Nat) : Prop where
  ia : i ≤ a.length
  ik : i ≤ k
  kb : k - i ≤ b.length
  kc : k ≤ c.length
  perm : (c.drop k).Perm (a.drop i ++ b.drop (k - i))
theorem Mrg.start {a b c : List Int} (h : c.Perm (a ++ b)) : Mrg a b c 0 0 := ⟨Nat.zero_le _, Nat.le_refl _, Nat.zero_le _, Nat.zero_le _, by simpa using h⟩
theorem drop_cons (l : List Int) (k : Nat) (h : k < l.length) : l.drop k = l.getD k 0 :: l.drop (k + 1) := by
  rw [List.drop_eq_getElem_cons h]
  simp [List.getD, h]
theorem drop_le {l : List Int} (s : l.Pairwise (· ≤ ·)) (k : Nat) (m : Int) (h : m ∈ l.drop k) : k < l.length ∧ l.getD k 0 ≤ m := by
  have hk : k < l.length := by
    rcases Nat.lt_or_ge k l.length with h' | h'
    · exact h'
    · rw [List.drop_eq_nil_of_le h'] at h; cases h
  refine ⟨hk, ?_⟩
  have hs := s.sublist (List.drop_sublist k l)
  rw [drop_cons l k hk] at h hs
  rcases List.mem_cons.1 h with h | h
  · rw [h]; exact Int.le_refl _
  · exact (List.pairwise_cons.1 hs).1 m h
theorem Mrg.next {a b c : List Int} {i k : Nat} (h : Mrg a b c i k) (sa : a.Pairwise (· ≤ ·)) (sb : b.Pairwise (· ≤ ·)) (sc : c.Pairwise (· ≤ ·)) (hk : k < c.length) : (i < a.length ∧ a.getD i 0 = c.getD k 0) ∨ (k - i < b.length ∧ b.getD (k - i) 0 = c.getD k 0) := by
  have h1 : c.getD k 0 ∈ a.drop i ++ b.drop (k - i) := h.perm.mem_iff.1 (by rw [drop_cons c k hk]; exact List.mem_cons_self)
  have low : ∀ m, m ∈ a.drop i ++ b.drop (k - i) → c.getD k 0 ≤ m := fun m hm => (drop_le sc k m (h.perm.mem_iff.2 hm)).2
  rcases List.mem_append.1 h1 with h2 | h2
  · obtain ⟨h3, h4⟩ := drop_le sa i _ h2
    left
    refine ⟨h3, Int.le_antisymm h4 (low _ (List.mem_append_left _ ?_))⟩
    rw [drop_cons a i h3]
    exact List.mem_cons_self
  · obtain ⟨h3, h4⟩ := drop_le sb (k - i) _ h2
    right
    refine ⟨h3, Int.le_antisymm h4 (low _ (List.mem_append_right _ ?_))⟩
    rw [drop_cons b (k - i) h3]
    exact List.mem_cons_self
theorem Mrg.done {a b c : List Int} {i k : Nat} (h : Mrg a b c i k) (hk : k = c.length) : i = a.length := by
  have hp := h.perm
  rw [hk, List.drop_length] at hp
  have h1 := hp.length_eq
  have h2 := h.ia
  simp at h1
  omega
/-- A slice of numbers: what stands there. -/
def RowU (w : World) (va : Option Addr) (n : Nat) (l : List Int) : Prop := ∀ j, j < n → ∃ b, va = some ⟨b, 0, none⟩ ∧ w.cell? ⟨b, j, none⟩ = some (.int .u64 (l.getD j 0))
theorem RowU.later {w W : World} {va : Option Addr} {n : Nat} {l : List Int} (h : RowU w va n l) (hb : Below w.heap.size w W) : RowU W va n l := fun j hj => by
  obtain ⟨b, e, hc⟩ := h j hj
  exact ⟨b, e, (hb.cell (block_lt_of_cell hc)).trans hc⟩
theorem OwU.row {base : Nat} {v : Value} {l : List Int} {w : World} (h : OwU base v l w) : ∃ va c, v = .slice va l.length c ∧ RowU w va l.length l := by
  obtain ⟨va, c, rfl, _⟩ := own_form h
  refine ⟨va, c, rfl, fun j hj => ?_⟩
  rcases h.2 with ⟨_, h2⟩ | ⟨g, cap, cur, h2, _⟩
  · omega
  · cases h2
    exact ⟨g, rfl, h.cell j hj⟩
end Go.Proofs.YtfnjcpopadpmbaaDoor
namespace Go.Proofs.YtfnjcpopadpmbaaDoor
open Go.RowKit BigFrame
set_option maxRecDepth 100000
def bl (F : Nat → Bool) (k : Nat) : List Value := (List.range k).map fun i => Value.bool (F i)
theorem bl_length (F : Nat → Bool) (k : Nat) : (bl F k).length = k := by simp [bl]
theorem bl_get (F : Nat → Bool) (k j : Nat) (h : j < k) : (bl F k)[j]? = some (.bool (F j)) := by simp [bl, h]
structure TriW (base : Nat) (w : World) (L : List Ow) (W : World) : Prop where
  own : OwL base L W
  below : Below base w W
  size : base ≤ W.heap.size
theorem TriW.later {base : Nat} {w : World} {L : List Ow} {W W' : World} (h : TriW base w L W) (hb : Below W.heap.size W W') : TriW base w L W' :=
  ⟨h.own.later hb, h.below.trans (hb.mono h.size), Nat.le_trans h.size hb.size⟩
theorem info_bool : (Tryd.prog.info? 4).map (fun i => (i.zero, i.size, i.bytes)) = some (some (.bool false), 1, 1) := by kernel_rfl
theorem info_bool2 : (Tryd.prog.info? 4).map (fun i => (i.zero, i.size)) = some (some (.bool false), 1) := by kernel_rfl
end Go.Proofs.YtfnjcpopadpmbaaDoor
