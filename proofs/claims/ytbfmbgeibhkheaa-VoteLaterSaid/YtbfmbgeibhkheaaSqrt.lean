/- The root of a number, in plain words: the greatest number whose square isn't above it; the one number of this kind; Newton's step; the reckoning bit by bit. -/
import Derived.Lib.BitFns
import Derived.Lib.Hide
namespace Go.Proofs.Ytbfmbgeibhkheaa.Sq

/-- Bit by bit. -/
def aux : Nat → Nat → Nat → Nat
  | 0, r, _ => r
  | k + 1, r, n => aux k (if (r + 2 ^ k) * (r + 2 ^ k) ≤ n then r + 2 ^ k else r) n
def isq (n : Nat) : Nat := aux 32 0 n

theorem aux_spec (n : Nat) : ∀ k r, r * r ≤ n → n < (r + 2 ^ k) * (r + 2 ^ k) → aux k r n * aux k r n ≤ n ∧ n < (aux k r n + 1) * (aux k r n + 1)
  | 0, r, h1, h2 => by simpa [aux] using ⟨h1, h2⟩
  | k + 1, r, h1, h2 => by
    unfold aux
    split
    · rename_i h
      refine aux_spec n k _ h ?_
      have : r + 2 ^ k + 2 ^ k = r + 2 ^ (k + 1) := by rw [Nat.pow_succ]; omega
      rw [this]; exact h2
    · rename_i h
      exact aux_spec n k r h1 (by omega)
theorem isq_spec (n : Nat) (h : n ≤ 18446744073709551615) : isq n * isq n ≤ n ∧ n < (isq n + 1) * (isq n + 1) :=
  aux_spec n 32 0 (by simp) (by simp; omega)

theorem lt_of_sq {a b : Nat} (h : a * a < b * b) : a < b := by
  rcases Nat.lt_or_ge a b with h' | h'
  · exact h'
  · have := Nat.mul_le_mul h' h'; omega
theorem le_of_sq {a b : Nat} (h : a * a < (b + 1) * (b + 1)) : a ≤ b := by have := lt_of_sq h; omega
theorem unique {n s t : Nat} (h1 : s * s ≤ n) (h2 : n < (s + 1) * (s + 1)) (h3 : t * t ≤ n) (h4 : n < (t + 1) * (t + 1)) : s = t := by
  have a := le_of_sq (a := s) (b := t) (by omega)
  have b := le_of_sq (a := t) (b := s) (by omega)
  omega
theorem small (n s : Nat) (hn : n ≤ 18446744073709551615) (h1 : s * s ≤ n) : s ≤ 4294967295 := by
  refine le_of_sq (b := 4294967295) ?_
  simp; omega
theorem lt_aux : ∀ k x, x < 2 ^ k → x < 2 ^ Go.Lib.bitLenAux k x
  | 0, x, h => by simpa [Go.Lib.bitLenAux] using h
  | k + 1, x, h => by
    have h' : x / 2 < 2 ^ k := by rw [Nat.pow_succ] at h; omega
    have ih := lt_aux k (x / 2) h'
    unfold Go.Lib.bitLenAux
    split
    · omega
    · rw [Nat.add_comm, Nat.pow_succ]; omega
theorem lt_bitLen (x : Nat) (h : x ≤ 18446744073709551615) : x < 2 ^ Go.Lib.bitLen x := lt_aux 64 x (by simp; omega)
theorem bitLen_le64 (x : Nat) (h : x ≤ 18446744073709551615) : Go.Lib.bitLen x ≤ 64 := Go.Lib.bitLen_le x 64 (Nat.le_refl _) (by simp; omega)
/-- The first guess: not below the root. -/
theorem start (n s : Nat) (hn : n ≤ 18446744073709551615) (h1 : s * s ≤ n) : s ≤ 2 ^ ((Go.Lib.bitLen n + 1) / 2) ∧ 1 ≤ 2 ^ ((Go.Lib.bitLen n + 1) / 2) := by
  have hb := lt_bitLen n hn
  refine ⟨?_, Nat.one_le_two_pow⟩
  have h : s * s < (2 ^ ((Go.Lib.bitLen n + 1) / 2)) * (2 ^ ((Go.Lib.bitLen n + 1) / 2)) := by
    rw [← Nat.pow_add]
    have : Go.Lib.bitLen n ≤ (Go.Lib.bitLen n + 1) / 2 + (Go.Lib.bitLen n + 1) / 2 := by omega
    have := Nat.pow_le_pow_right (n := 2) (by omega) this
    omega
  have := lt_of_sq h
  omega
/-- One step of Newton's: still not below the root; no less means that it is the root. -/
theorem step (n s x : Nat) (h1 : s * s ≤ n) (h2 : n < (s + 1) * (s + 1)) (hx : s ≤ x) (hx1 : 1 ≤ x) :
    n / x ≤ x + 2 ∧ s ≤ (x + n / x) / 2 ∧ (¬ (x + n / x) / 2 < x → x = s) := by
  have hq : n / x * x ≤ n := Nat.div_mul_le_self n x
  have hq2 : n < (n / x + 1) * x := by
    have := Nat.div_add_mod n x
    have := Nat.mod_lt n (show 0 < x by omega)
    rw [Nat.add_mul, Nat.one_mul, Nat.mul_comm]
    omega
  generalize n / x = q at *
  refine ⟨?_, ?_, ?_⟩
  · rcases Nat.lt_or_ge (x + 2) q with h | h
    · exfalso
      have a : (x + 3) * x ≤ q * x := Nat.mul_le_mul_right x h
      have b : (s + 1) * (s + 1) ≤ (x + 1) * (x + 1) := Nat.mul_le_mul (by omega) (by omega)
      grind
    · exact h
  · rcases Nat.lt_or_ge ((x + q) / 2) s with h | h
    · exfalso
      have a : x + q + 1 ≤ 2 * s := by omega
      have b : (q + 1) * x ≤ s * s := by
        have c : x + (q + 1) ≤ 2 * s := by omega
        have d : (x + (q + 1)) * (x + (q + 1)) ≤ (2 * s) * (2 * s) := Nat.mul_le_mul c c
        have e : 4 * ((q + 1) * x) ≤ (x + (q + 1)) * (x + (q + 1)) := by
          rcases Nat.le_total x (q + 1) with f | f
          · obtain ⟨k, hk⟩ := Nat.exists_eq_add_of_le f
            rw [hk]; grind
          · obtain ⟨k, hk⟩ := Nat.exists_eq_add_of_le f
            rw [hk]; grind
        grind
      omega
    · exact h
  · intro h
    have a : x ≤ q := by omega
    have b : x * x ≤ q * x := Nat.mul_le_mul_right x a
    have c := le_of_sq (a := x) (b := s) (by omega)
    omega
theorem pos (n s : Nat) (h0 : ¬ n = 0) (h2 : n < (s + 1) * (s + 1)) : 1 ≤ s := by
  rcases Nat.eq_zero_or_pos s with h | h
  · subst h; omega
  · exact h
theorem step' (n s x : Nat) (h1 : s * s ≤ n) (h2 : n < (s + 1) * (s + 1)) (hx : s ≤ x) (hx1 : 1 ≤ x) :
    ∃ q : Nat, (n : Int) / (x : Int) = (q : Int) ∧ q ≤ x + 2 ∧ s ≤ (x + q) / 2 ∧ (¬ (x + q) / 2 < x → x = s) := by
  obtain ⟨a, b, c⟩ := step n s x h1 h2 hx hx1
  exact ⟨n / x, by simp, a, b, c⟩
end Go.Proofs.Ytbfmbgeibhkheaa.Sq
