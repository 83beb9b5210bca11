/- The walks of the numbers' functions (word): Less, Sub, Root at 4. -/
import Derived.Test.YtbfmbgeibhkheaaRows
import Derived.Test.YtbfmbgeibhkheaaBase
import Derived.Shelf.Spec.BitsCarry
import Derived.Test.YtbfmbgeibhkheaaShelf
import Derived.Test.YtbfmbgeibhkheaaSqrt
namespace Go.Proofs.Ytbfmbgeibhkheaa
open Go.RowKit
set_option maxRecDepth 100000

theorem less_any (a b : Int) (w : World) (h0 : 0 ≤ a) (h1 : 0 ≤ b) (h2 : a ≤ 18446744073709551615) (h3 : b ≤ 18446744073709551615) :
    Calls Try.prog 17 #[.int .u64 a, .int .u64 b] w fun e w' => e = .returned (.int .u64 (if a ≤ b then 0 else a - b)) ∧ w = w' := by
  by_cases h : a ≤ b
  · rw [if_pos h]
    by_cases h' : a = b
    · subst h'
      go_enter Try.func17, Try.ntmps17
      go_wp2
      go_ret
      exact ⟨by simp, rfl⟩
    · go_enter Try.func17, Try.ntmps17
      go_wp2
      all_goals go_ret
      all_goals exact ⟨by simp; omega, rfl⟩
  · rw [if_neg h]
    go_enter Try.func17, Try.ntmps17
    go_wp2
    all_goals go_ret
    all_goals exact ⟨by simp; omega, rfl⟩

theorem rless_any (a b : Int) (w : World) (h0 : 0 ≤ a) (h1 : 0 ≤ b) (h2 : a ≤ 18446744073709551615) (h3 : b ≤ 18446744073709551615) :
    Calls Try.prog 25 #[.int .u64 a, .int .u64 b] w fun e w' => e = .returned (.int .u64 (if a ≤ b then 0 else a - b)) ∧ w = w' := by
  by_cases h : a < b
  · rw [if_pos (by omega)]
    go_enter Try.func25, Try.ntmps25
    go_wp2
    all_goals go_ret
    all_goals exact ⟨rfl, rfl⟩
  · have e : (if a ≤ b then 0 else a - b) = a - b := by split <;> omega
    rw [e]
    go_enter Try.func25, Try.ntmps25
    go_wp2
    all_goals go_ret
    all_goals exact ⟨rfl, rfl⟩

theorem sub64_call (x y : Nat) (w : World) :
    (callFunc 26 #[.int .u64 x, .int .u64 y, .int .u64 0] ).run Try.prog w =
      .ok (.value (.tuple #[.int .u64 (((x + 18446744073709551616 - y - 0) % 18446744073709551616 : Nat) : Int), .int .u64 ((if x < y + 0 then 1 else 0 : Nat) : Int)])) w := by
  rw [run_callFunc_extern Try.func26 (by kernel_rfl) (by kernel_rfl) (by kernel_rfl) (e := sub64Entry) (by kernel_rfl)]
  have := run_sub64 (P := Try.prog) x y 0 (by omega) w
  simp only [Int.natCast_zero] at this
  rw [this]
  rfl

theorem sub_any (a b : Int) (w : World) (h0 : 0 ≤ a) (h1 : 0 ≤ b) (h2 : a ≤ 18446744073709551615) (h3 : b ≤ 18446744073709551615) :
    Calls Try.prog 24 #[.int .u64 a, .int .u64 b] w fun e w' => e = .returned (.tuple #[.int .u64 (if a < b then 0 else a - b), .int .i64 (if a < b then 2 else 0)]) ∧ w = w' := by
  obtain ⟨x, rfl⟩ := Int.eq_ofNat_of_zero_le h0
  obtain ⟨y, rfl⟩ := Int.eq_ofNat_of_zero_le h1
  by_cases h : x < y
  · have hs := sub64_call x y
    rw [if_pos (by omega)] at hs
    rw [if_pos (by omega), if_pos (by omega)]
    go_enter Try.func24, Try.ntmps24
    go_wp2
    all_goals go_ret2
    all_goals exact ⟨rfl, rfl⟩
  · have hs := sub64_call x y
    rw [if_neg (by omega), show (x + 18446744073709551616 - y - 0) % 18446744073709551616 = x - y from by omega] at hs
    rw [if_neg (by omega), if_neg (by omega), show ((x : Int) - y) = ((x - y : Nat) : Int) from by omega]
    go_enter Try.func24, Try.ntmps24
    go_wp2
    all_goals go_ret2
    all_goals exact ⟨rfl, rfl⟩


/-- Root, the walk: from a number not below the root down to it. -/
theorem root_any (n s : Nat) (hn : n ≤ 18446744073709551615) (h1 : s * s ≤ n) (h2 : n < (s + 1) * (s + 1)) (w : World) :
    Calls Try.prog 18 #[.int .u64 n] w fun e w' => e = .returned (.int .u64 s) ∧ w = w' := by
  by_cases h0 : n = 0
  · subst h0
    have hs : s = 0 := by
      rcases Nat.eq_zero_or_pos s with h | h
      · exact h
      · have := Nat.mul_pos h h; omega
    subst hs
    go_enter Try.func18, Try.ntmps18
    go_wp2
    go_step3
    go_wp2
    rw [Exit.noGoto_ret]
    go_ret
    exact ⟨rfl, rfl⟩
  have hx0 := Sq.start n s hn h1
  have hsb := Sq.small n s hn h1
  have hbl := Sq.bitLen_le64 n hn
  obtain ⟨X, hX, hX1, hX2⟩ : ∃ X : Nat, IntKind.u64.wrap (2 ^ ((Lib.bitLen n + 1) / 2)) = (X : Int) ∧ s ≤ X ∧ 1 ≤ X := by
    refine ⟨2 ^ ((Lib.bitLen n + 1) / 2), ?_, hx0.1, hx0.2⟩
    have h3 : 2 ^ ((Lib.bitLen n + 1) / 2) ≤ 2 ^ 32 := Nat.pow_le_pow_right (by omega) (by omega)
    have h4 : ((2 : Int) ^ ((Lib.bitLen n + 1) / 2)) = ((2 ^ ((Lib.bitLen n + 1) / 2) : Nat) : Int) := by simp
    rw [h4, IntWalk.u64_in _ (by omega)]
  clear hx0
  have hsb' : (s : Int) ≤ 4294967295 := by omega
  have hs0 : 1 ≤ s := Sq.pos n s h0 h2
  clear hsb
  go_enter Try.func18, Try.ntmps18
  go_wp2
  refine wp_scope_jumps 0 (fun a' w' => w' = w ∧ ∃ (x : Nat) (u4 u5 u6 u7 u8 u9 u10 u11 u12 u13 u14 u15 u16 u17 u18 u19 u20 u21 u22 u23 u24 : Value), a' = { tmps := #[.int .u64 n, undef, .int .u64 0, .int .u64 x, u4, u5, u6, u7, u8, u9, u10, u11, u12, u13, u14, u15, u16, u17, u18, u19, u20, u21, u22, u23, u24], defers := [] } ∧ s ≤ x ∧ 1 ≤ x ∧ (x : Int) ≤ 4294967295) (fun a' _ => (intOf (a'.tmps.getD 3 undef)).toNat) rfl ?_ ?_
  · go_wp2_with (go_at_call 23; refine (Try.bits_Len64 _ _ (by omega) (by omega)).mono ?_; rintro e w' ⟨rfl, rfl⟩)
    · generalize hxe : (4294967295 : Int) = M
      obtain ⟨x, rfl⟩ : ∃ x : Nat, M = (x : Int) := ⟨4294967295, hxe.symm⟩
      have hx1 : s ≤ x := by omega
      have hx2 : 1 ≤ x := by omega
      have hx3 : (x : Int) ≤ 4294967295 := by omega
      clear hxe hsb'
      obtain ⟨q, hq, hq2, hs1, hs2⟩ := Sq.step' n s x h1 h2 hx1 hx2
      have hs3 := Lib.hid hs2
      clear hs2 h1 h2 hX hX1 hX2
      by_cases hlt : (x + q) / 2 < x
      · go_step3
        go_wp2
        go_step3
        exact ⟨rfl, rfl, (x + q) / 2, _, _, _, _, _, _, _, _, _, _, _, _, _, _, _, _, _, _, _, _, _, rfl, by omega, by omega, by omega⟩
      · go_step3
        go_wp2
        simp only [Exit.jump]
        go_ret
        have := hs3.out hlt
        subst this
        exact ⟨rfl, rfl⟩
    · have hx1 : s ≤ X := hX1
      have hx2 : 1 ≤ X := hX2
      have hx3 : (X : Int) ≤ 4294967295 := by omega
      obtain ⟨q, hq, hq2, hs1, hs2⟩ := Sq.step' n s X h1 h2 hx1 hx2
      have hs3 := Lib.hid hs2
      clear hs2 h1 h2 hX1 hX2
      by_cases hlt : (X + q) / 2 < X
      · go_step3
        go_wp2
        go_step3
        exact ⟨rfl, rfl, (X + q) / 2, _, _, _, _, _, _, _, _, _, _, _, _, _, _, _, _, _, _, _, _, _, rfl, by omega, by omega, by omega⟩
      · go_step3
        go_wp2
        simp only [Exit.jump]
        go_ret
        have := hs3.out hlt
        subst this
        exact ⟨congrArg (fun z => Ending.returned (.int .u64 z)) hX, rfl⟩
  · rintro a' w' ⟨rfl, x, u4, u5, u6, u7, u8, u9, u10, u11, u12, u13, u14, u15, u16, u17, u18, u19, u20, u21, u22, u23, u24, rfl, hx1, hx2, hx3⟩
    obtain ⟨q, hq, hq2, hs1, hs2⟩ := Sq.step' n s x h1 h2 hx1 hx2
    have hs3 := Lib.hid hs2
    clear hs2 h1 h2 hX hX1 hX2
    by_cases hlt : (x + q) / 2 < x
    · go_wp2
      go_step3
      exact ⟨rfl, ⟨rfl, (x + q) / 2, _, _, _, _, _, _, _, _, _, _, _, _, _, _, _, _, _, _, _, _, _, rfl, by omega, by omega, by omega⟩, by simp [intOf]; omega⟩
    · go_wp2
      simp only [Exit.jump]
      go_ret
      have := hs3.out hlt
      subst this
      exact ⟨rfl, rfl⟩
end Go.Proofs.Ytbfmbgeibhkheaa
