/- Right of the program: which states may be, walked; few, the sum of a list that isn't too much. -/
import Derived.Test.YtbfmbgeibhkheaaRows
import Derived.Test.YtbfmbgeibhkheaaState
namespace Go.Proofs.Ytbfmbgeibhkheaa
open Go.RowKit
set_option maxRecDepth 100000

theorem few_any (l : List Int) (va : Option Addr) (cap : Nat) (w : World) (hl : l.length ≤ 9223372036854775807) (hr : Row w va .u64 l) :
    Calls Try.prog 16 #[.slice va l.length cap] w fun e w' => e = .returned (.bool (fewB 144115188075855872 l)) ∧ w = w' := by
  obtain ⟨hc, hb⟩ := hr
  go_enter Try.func16, Try.ntmps16
  go_wp2
  go_loop [3, 8] (fun r i => ∃ (k : Nat) (R : Int), k ≤ l.length ∧ 0 ≤ R ∧ R ≤ 144115188075855872 ∧ i = .int .i64 k ∧ r = .int .u64 R ∧ fewB 144115188075855872 l = fewB R (l.drop k)) (fun _ i => l.length - (intOf i).toNat)
  case atStart => exact ⟨0, _, Nat.zero_le _, by decide, by decide, rfl, rfl, rfl⟩
  case round =>
    obtain ⟨k, R, hk, h0, h1, rfl, rfl, hf⟩ := hrel
    by_cases hlt : k < l.length
    · obtain ⟨b, o, rfl, hcell⟩ := hc k hlt
      have hbd := hb (l.getD k 0) (by simp [List.getD, hlt])
      simp only [CK.mk, CK.ok] at hcell hbd
      have hd := Lib.hid (fewB_drop R l k hlt)
      have hf' := Lib.hid hf
      clear hf hc hb
      generalize l.getD k 0 = n at *
      go_wp2
      · have hx : R < n := by assumption
        go_ret
        exact ⟨by rw [hf'.out, hd.out, if_pos hx]; rfl, rfl⟩
      · go_round
        case rel => exact ⟨k + 1, R - n, by omega, by omega, by omega, by go_num, rfl, by rw [hf'.out, hd.out, if_neg (by omega)]⟩
        case measure => simp [intOf]; omega
    · have : k = l.length := by omega
      subst this
      have hf' := Lib.hid hf
      clear hf
      go_wp2
      go_ret
      exact ⟨by rw [hf'.out]; simp [fewB], rfl⟩

theorem few_len (l : List Int) (n : Nat) (hn : l.length = n) (va : Option Addr) (cap : Nat) (w : World) (hl : n ≤ 9223372036854775807) (hr : Row w va .u64 l) (b : Bool) (hb : fewB 144115188075855872 l = b) :
    Calls Try.prog 16 #[.slice va n cap] w fun e w' => e = .returned (.bool b) ∧ w = w' := by
  subst hn
  subst hb
  exact few_any l va cap w hl hr

/- Not right by its lists' lengths. -/
set_option maxHeartbeats 4000000 in
theorem right_lens (xs : Array Value) (s : Sx) (w : World) (h : StRep w xs s)
    (hL : ¬ ((s.vals.length : Int) ≤ 65536 ∧ (s.bals.length : Int) = s.vals.length ∧ (s.prev.length : Int) = s.vals.length ∧ (s.cur.length : Int) = s.vals.length ∧ (s.scores.length : Int) = s.vals.length ∧ (s.hist.length : Int) ≤ 1024 ∧ (s.votes.length : Int) ≤ 8)) :
    Calls Try.prog 9 #[.agg xs] w fun e w' => e = .returned (.bool false) ∧ Below w.heap.size w w' := by
  obtain ⟨-, -, -, ⟨a1, c1, h1, -, b1⟩, ⟨a2, c2, h2, -, b2⟩, ⟨a3, c3, h3, -, b3⟩, ⟨a4, c4, h4, -, b4⟩, ⟨a5, c5, h5, -, b5⟩, ⟨a6, c6, h6, -, b6⟩, ⟨a7, c7, h7, -, b7⟩⟩ := h
  generalize s.vals.length = n1 at *
  generalize s.bals.length = n2 at *
  generalize s.prev.length = n3 at *
  generalize s.cur.length = n4 at *
  generalize s.scores.length = n5 at *
  generalize s.hist.length = n6 at *
  generalize s.votes.length = n7 at *
  go_enter Try.func9, Try.ntmps9
  go_wp2
  all_goals
    go_ret
    exact ⟨rfl, (Below.refl _ _).alloc (Nat.le_refl _) _⟩

theorem rowT_42 : rowB Try.prog 42 33 = true := by kernel_rfl
theorem rowT_66 : rowB Try.prog 66 86 = true := by kernel_rfl
theorem rowT_69 : rowB Try.prog 69 99 = true := by kernel_rfl

set_option maxHeartbeats 4000000 in
theorem right_nums (xs : Array Value) (s : Sx) (w : World) (h : StRep w xs s)
    (hL : (s.vals.length : Int) ≤ 65536 ∧ (s.bals.length : Int) = s.vals.length ∧ (s.prev.length : Int) = s.vals.length ∧ (s.cur.length : Int) = s.vals.length ∧ (s.scores.length : Int) = s.vals.length ∧ (s.hist.length : Int) ≤ 1024 ∧ (s.votes.length : Int) ≤ 8)
    (hN : ¬ (s.n 33 < 1099511627776 ∧ s.n 720 < 1099511627776 ∧ s.n 43 ≤ s.n 33)) :
    Calls Try.prog 9 #[.agg xs] w fun e w' => e = .returned (.bool false) ∧ Below w.heap.size w w' := by
  have f33 := h.u64 33 rfl
  have f43 := h.u64 43 rfl
  have f720 := h.u64 720 rfl
  obtain ⟨-, -, -, ⟨a1, c1, h1, -, b1⟩, ⟨a2, c2, h2, -, b2⟩, ⟨a3, c3, h3, -, b3⟩, ⟨a4, c4, h4, -, b4⟩, ⟨a5, c5, h5, -, b5⟩, ⟨a6, c6, h6, -, b6⟩, ⟨a7, c7, h7, -, b7⟩⟩ := h
  generalize s.vals.length = n1 at *
  generalize s.bals.length = n2 at *
  generalize s.prev.length = n3 at *
  generalize s.cur.length = n4 at *
  generalize s.scores.length = n5 at *
  generalize s.hist.length = n6 at *
  generalize s.votes.length = n7 at *
  generalize s.n 33 = m1 at *
  generalize s.n 43 = m2 at *
  generalize s.n 720 = m3 at *
  obtain ⟨l1, l2, l3, l4, l5, l6, l7⟩ := hL
  obtain rfl : n2 = n1 := by omega
  obtain rfl : n3 = n2 := by omega
  obtain rfl : n4 = n3 := by omega
  obtain rfl : n5 = n4 := by omega
  clear l2 l3 l4 l5
  go_enter Try.func9, Try.ntmps9
  go_wp2
  all_goals
    go_ret
    exact ⟨rfl, (Below.refl _ _).alloc (Nat.le_refl _) _⟩
end Go.Proofs.Ytbfmbgeibhkheaa
