/- The shuffle in plain words: pairs that change, rounds, the whole; nobody comes or goes. -/
import Derived.WalkKit
set_option linter.unusedVariables false
set_option linter.unusedSimpArgs false
set_option linter.unnecessarySimpa false
namespace Go.Proofs.YtfnjcpopadpmbaaDoor
/-- The fellow of a place. -/
def flipN (p n i : Nat) : Nat := if i ≤ p then p - i else p + n - i
theorem flipN_lt {p n i : Nat} (hp : p < n) (hi : i < n) : flipN p n i < n := by
  unfold flipN
  split <;> omega
/-- One place of a round: the pair changes. -/
def swap1 (p n : Nat) (b : Nat → Bool) (l : List Int) (i : Nat) : List Int :=
  if i < flipN p n i ∧ b (flipN p n i) = true then (l.set i (l.getD (flipN p n i) 0)).set (flipN p n i) (l.getD i 0) else l
/-- The first k places of a round. -/
def roundL (p n : Nat) (b : Nat → Bool) (l : List Int) : Nat → List Int
  | 0 => l
  | k + 1 => swap1 p n b (roundL p n b l k) k
/-- The last k rounds of r. -/
def shufK (pv : Nat → Nat) (b : Nat → Nat → Bool) (r : Nat) (l : List Int) : Nat → List Int
  | 0 => l
  | k + 1 => roundL (pv (r - 1 - k)) l.length (b (r - 1 - k)) (shufK pv b r l k) l.length
theorem swap1_length (p n : Nat) (b : Nat → Bool) (l : List Int) (i : Nat) : (swap1 p n b l i).length = l.length := by
  unfold swap1
  split <;> simp
theorem roundL_length (p n : Nat) (b : Nat → Bool) (l : List Int) (k : Nat) : (roundL p n b l k).length = l.length := by
  induction k with
  | zero => rfl
  | succ k ih => rw [roundL, swap1_length, ih]
theorem shufK_length (pv : Nat → Nat) (b : Nat → Nat → Bool) (r : Nat) (l : List Int) (k : Nat) : (shufK pv b r l k).length = l.length := by
  induction k with
  | zero => rfl
  | succ k ih => rw [shufK, roundL_length, ih]
theorem swap1_count (p n : Nat) (b : Nat → Bool) (l : List Int) (i : Nat) (v : Int) (hn : l.length = n) (hp : p < n) (hi : i < n) : (swap1 p n b l i).count v = l.count v := by
  unfold swap1
  split
  · rename_i h
    have hf := flipN_lt hp hi
    generalize flipN p n i = f at *
    have h1 : i < l.length := by omega
    have h2 : f < (l.set i (l.getD f 0)).length := by rw [List.length_set]; omega
    have h3 : f < l.length := by omega
    have e1 : l.getD f 0 = l[f] := by simp [List.getD, h3]
    have e2 : l.getD i 0 = l[i] := by simp [List.getD, h1]
    have e3 : (l.set i (l.getD f 0))[f] = l[f] := by rw [List.getElem_set_ne (by omega)]
    rw [List.count_set h2, e3, List.count_set h1, e1, e2]
    have p1 : (if l[i] == v then 1 else 0) ≤ l.count v := by
      split
      · rename_i hq
        have : l[i] = v := by simpa using hq
        exact List.count_pos_iff.2 (this ▸ List.getElem_mem h1)
      · omega
    omega
  · rfl
theorem roundL_count (p n : Nat) (b : Nat → Bool) (l : List Int) (k : Nat) (v : Int) (hn : l.length = n) (hp : p < n) (hk : k ≤ n) : (roundL p n b l k).count v = l.count v := by
  induction k with
  | zero => rfl
  | succ k ih => rw [roundL, swap1_count _ _ _ _ _ _ (by rw [roundL_length]; exact hn) hp (by omega), ih (by omega)]
theorem shufK_count (pv : Nat → Nat) (b : Nat → Nat → Bool) (r : Nat) (l : List Int) (k : Nat) (v : Int) (hp : ∀ j, pv j < l.length) : (shufK pv b r l k).count v = l.count v := by
  induction k with
  | zero => rfl
  | succ k ih => rw [shufK, roundL_count _ _ _ _ _ _ (shufK_length _ _ _ _ _) (hp _) (Nat.le_refl _), ih]
/-- Those of the first k for whom this holds. -/
def activesL (a : Nat → Bool) : Nat → List Int
  | 0 => []
  | k + 1 => if a k then activesL a k ++ [(k : Int)] else activesL a k
theorem activesL_length (a : Nat → Bool) (k : Nat) : (activesL a k).length ≤ k := by
  induction k with
  | zero => simp [activesL]
  | succ k ih =>
    unfold activesL
    split
    · simp; omega
    · omega
theorem activesL_mem (a : Nat → Bool) (k : Nat) (m : Int) (h : m ∈ activesL a k) : ∃ v : Nat, m = v ∧ v < k ∧ a v = true := by
  induction k with
  | zero => simp [activesL] at h
  | succ k ih =>
    unfold activesL at h
    split at h
    · rename_i c
      rcases List.mem_append.1 h with h | h
      · obtain ⟨v, h1, h2, h3⟩ := ih h
        exact ⟨v, h1, by omega, h3⟩
      · rw [List.mem_singleton] at h
        exact ⟨k, h, by omega, c⟩
    · obtain ⟨v, h1, h2, h3⟩ := ih h
      exact ⟨v, h1, by omega, h3⟩
/-- Where committee k of s begins. -/
def cut (n s k : Nat) : Nat := n * k / s
theorem cut_le {n s k : Nat} (hs : 0 < s) (hk : k ≤ s) : cut n s k ≤ n := by
  unfold cut
  rw [Nat.div_le_iff_le_mul_add_pred hs]
  have := Nat.mul_le_mul_left n hk
  rw [Nat.mul_comm s n]
  omega
theorem cut_step {n s k : Nat} (hs : 0 < s) : cut n s k ≤ cut n s (k + 1) ∧ n / s ≤ cut n s (k + 1) - cut n s k ∧ cut n s (k + 1) - cut n s k ≤ n / s + 1 := by
  unfold cut
  have e0 : n * (k + 1) = n * k + n := by rw [Nat.mul_add, Nat.mul_one]
  rw [e0]
  generalize n * k = m
  have h1 := Nat.div_add_mod m s
  have h2 := Nat.div_add_mod (m + n) s
  have h3 := Nat.div_add_mod n s
  have l1 := Nat.mod_lt m hs
  have l2 := Nat.mod_lt (m + n) hs
  have l3 := Nat.mod_lt n hs
  have g1 : m / s + n / s ≤ (m + n) / s := Nat.div_add_div_le_add_div
  have g2 : (m + n) / s ≤ m / s + n / s + 1 := by
    rw [← Nat.lt_succ_iff, Nat.div_lt_iff_lt_mul hs]
    have : (m / s + n / s + 1 + 1) * s = s * (m / s) + s * (n / s) + s + s := by
      rw [Nat.add_mul, Nat.add_mul, Nat.add_mul, Nat.one_mul, Nat.mul_comm _ s, Nat.mul_comm _ s]
    show m + n < (m / s + n / s + 1 + 1) * s
    omega
  have g3 : m / s ≤ (m + n) / s := Nat.div_le_div_right (Nat.le_add_right _ _)
  generalize m / s = A at *
  generalize (m + n) / s = B at *
  generalize n / s = C at *
  omega
end Go.Proofs.YtfnjcpopadpmbaaDoor
