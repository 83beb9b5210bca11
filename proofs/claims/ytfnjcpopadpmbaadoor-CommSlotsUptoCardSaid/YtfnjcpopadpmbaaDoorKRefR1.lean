/- Right of the reference: the sum of a list, an epoch, and what is looked at ahead of the loop. -/
import Derived.Test.YtfnjcpopadpmbaaDoorRows
import Derived.Test.YtfnjcpopadpmbaaDoorJG
set_option linter.unusedVariables false
set_option linter.unusedSimpArgs false
set_option linter.unnecessarySimpa false
namespace Go.Proofs.YtfnjcpopadpmbaaDoor
open Go.RowKit
set_option maxRecDepth 100000

theorem repoch_any (n : Int) (w : World) (b : Bool) (hb : epochB n = b) (h0 : 0 ≤ n) (h1 : n ≤ 18446744073709551615) :
    Calls Tryd.prog 17 #[.int .u64 n] w fun e w' => e = .returned (.bool b) ∧ w = w' := by
  subst hb
  by_cases h : n = 18446744073709551615
  · subst h
    go_enter Tryd.func17, Tryd.ntmps17
    go_wp2
    go_ret
    exact ⟨rfl, rfl⟩
  · have hb1 : (n == 18446744073709551615) = false := by simp [h]
    by_cases h2 : n < 2199023255552
    · have e : epochB n = true := by simp [epochB, h2]
      rw [e]
      have hd : decide (n < 2199023255552) = true := by simp [h2]
      clear e
      go_enter Tryd.func17, Tryd.ntmps17
      go_wp2
      go_ret
      exact ⟨rfl, rfl⟩
    · have e : epochB n = false := by simp [epochB, h]; omega
      rw [e]
      clear e
      go_enter Tryd.func17, Tryd.ntmps17
      go_wp2
      go_ret
      exact ⟨rfl, rfl⟩

theorem rsum_any (l : List Int) (va : Option Addr) (cap : Nat) (w : World) (hl : l.length ≤ 9223372036854775807) (hr : Row w va .u64 l) :
    Calls Tryd.prog 18 #[.slice va l.length cap] w fun e w' => e = .returned (.bool (fewB 144115188075855872 l)) ∧ w = w' := by
  obtain ⟨hc, hb⟩ := hr
  go_enter Tryd.func18, Tryd.ntmps18
  go_wp2
  go_loop [3, 4] (fun r i => ∃ (k : Nat) (R : Int), k ≤ l.length ∧ 0 ≤ R ∧ R ≤ 144115188075855872 ∧ i = .int .i64 k ∧ r = .int .u64 R ∧ fewB 144115188075855872 l = fewB (144115188075855872 - R) (l.drop k)) (fun _ i => l.length - (intOf i).toNat)
  case atStart => exact ⟨0, 0, Nat.zero_le _, by decide, by decide, rfl, rfl, rfl⟩
  case round =>
    obtain ⟨k, R, hk, h0, h1, rfl, rfl, hf⟩ := hrel
    by_cases hlt : k < l.length
    · obtain ⟨b, o, rfl, hcell⟩ := hc k hlt
      have hbd := hb (l.getD k 0) (by simp [List.getD, hlt])
      simp only [CK.mk, CK.ok] at hcell hbd
      have hd := Lib.hid (fewB_drop (144115188075855872 - R) l k hlt)
      have hf' := Lib.hid hf
      clear hf hc hb
      generalize l.getD k 0 = n at *
      by_cases hx : 144115188075855872 < n
      · go_wp2
        go_ret
        exact ⟨by rw [hf'.out, hd.out, if_pos (by omega)]; rfl, rfl⟩
      · by_cases hy : 144115188075855872 < R + n
        · go_wp2
          go_ret
          exact ⟨by rw [hf'.out, hd.out, if_pos (by omega)]; rfl, rfl⟩
        · go_wp2
          go_round
          case rel => exact ⟨k + 1, R + n, by omega, by omega, by omega, by go_num, rfl, by rw [hf'.out, hd.out, if_neg (by omega)]; congr 1; omega⟩
          case measure => simp [intOf]; omega
    · have : k = l.length := by omega
      subst this
      have hf' := Lib.hid hf
      clear hf
      go_wp2
      go_ret
      exact ⟨by rw [hf'.out]; simp [fewB], rfl⟩

theorem rsum_len (l : List Int) (n : Nat) (hn : l.length = n) (va : Option Addr) (cap : Nat) (w : World) (hl : n ≤ 9223372036854775807) (hr : Row w va .u64 l) (b : Bool) (hb : fewB 144115188075855872 l = b) :
    Calls Tryd.prog 18 #[.slice va n cap] w fun e w' => e = .returned (.bool b) ∧ w = w' := by
  subst hn
  subst hb
  exact rsum_any l va cap w hl hr

set_option maxHeartbeats 4000000 in
theorem rright_lens (xs : Array Value) (s : Sx) (w : World) (h : StRep w xs s)
    (hL : ¬ ((s.vals.length : Int) ≤ 65536 ∧ (s.bals.length : Int) = s.vals.length ∧ (s.prev.length : Int) = s.vals.length ∧ (s.cur.length : Int) = s.vals.length ∧ (s.scores.length : Int) = s.vals.length)) :
    Calls Tryd.prog 7 #[.agg xs] w fun e w' => e = .returned (.bool false) ∧ Below w.heap.size w w' := by
  obtain ⟨-, -, -, ⟨a1, c1, h1, -, b1⟩, ⟨a2, c2, h2, -, b2⟩, ⟨a3, c3, h3, -, b3⟩, ⟨a4, c4, h4, -, b4⟩, ⟨a5, c5, h5, -, b5⟩, ⟨a6, c6, h6, -, b6⟩, ⟨a7, c7, h7, -, b7⟩⟩ := h
  generalize s.vals.length = n1 at *
  generalize s.bals.length = n2 at *
  generalize s.prev.length = n3 at *
  generalize s.cur.length = n4 at *
  generalize s.scores.length = n5 at *
  by_cases p1 : (n1 : Int) ≤ 65536
  · by_cases p2 : n2 = n1
    · subst p2
      by_cases p3 : n3 = n2
      · subst p3
        by_cases p4 : n4 = n3
        · subst p4
          have q5 : ((n4 : Int) != (n5 : Int)) = true := by simp; omega
          clear hL
          go_enter Tryd.func7, Tryd.ntmps7
          go_wp2
          go_ret
          exact ⟨rfl, (Below.refl _ _).alloc (Nat.le_refl _) _⟩
        · have q4 : ((n3 : Int) != (n4 : Int)) = true := by simp; omega
          clear hL
          go_enter Tryd.func7, Tryd.ntmps7
          go_wp2
          go_ret
          exact ⟨rfl, (Below.refl _ _).alloc (Nat.le_refl _) _⟩
      · have q3 : ((n2 : Int) != (n3 : Int)) = true := by simp; omega
        clear hL
        go_enter Tryd.func7, Tryd.ntmps7
        go_wp2
        go_ret
        exact ⟨rfl, (Below.refl _ _).alloc (Nat.le_refl _) _⟩
    · have q2 : ((n1 : Int) != (n2 : Int)) = true := by simp; omega
      clear hL
      go_enter Tryd.func7, Tryd.ntmps7
      go_wp2
      go_ret
      exact ⟨rfl, (Below.refl _ _).alloc (Nat.le_refl _) _⟩
  · clear hL
    go_enter Tryd.func7, Tryd.ntmps7
    go_wp2
    go_ret
    exact ⟨rfl, (Below.refl _ _).alloc (Nat.le_refl _) _⟩

set_option maxHeartbeats 4000000 in
theorem rright_nums (xs : Array Value) (s : Sx) (w : World) (h : StRep w xs s)
    (hL : (s.vals.length : Int) ≤ 65536 ∧ (s.bals.length : Int) = s.vals.length ∧ (s.prev.length : Int) = s.vals.length ∧ (s.cur.length : Int) = s.vals.length ∧ (s.scores.length : Int) = s.vals.length)
    (hN : ¬ ((s.hist.length : Int) ≤ 1024 ∧ (s.votes.length : Int) ≤ 8 ∧ s.n 33 < 1099511627776 ∧ s.n 720 < 1099511627776 ∧ s.n 43 ≤ s.n 33 ∧ s.n 993 ≤ s.n 33 / 4 ∧ s.n 1026 ≤ s.n 33 / 4 ∧ s.n 1059 ≤ s.n 33 / 4)) :
    Calls Tryd.prog 7 #[.agg xs] w fun e w' => e = .returned (.bool false) ∧ Below w.heap.size w w' := by
  have f33 := h.u64 33 rfl
  have g33 := h.u64b 33 rfl
  have f43 := h.u64 43 rfl
  have f720 := h.u64 720 rfl
  have f993 := h.u64 993 rfl
  have f1026 := h.u64 1026 rfl
  have f1059 := h.u64 1059 rfl
  obtain ⟨-, -, -, ⟨a1, c1, h1, -, b1⟩, ⟨a2, c2, h2, -, b2⟩, ⟨a3, c3, h3, -, b3⟩, ⟨a4, c4, h4, -, b4⟩, ⟨a5, c5, h5, -, b5⟩, ⟨a6, c6, h6, -, b6⟩, ⟨a7, c7, h7, -, b7⟩⟩ := h
  generalize s.vals.length = n1 at *
  generalize s.bals.length = n2 at *
  generalize s.prev.length = n3 at *
  generalize s.cur.length = n4 at *
  generalize s.scores.length = n5 at *
  generalize s.hist.length = n6 at *
  generalize s.votes.length = n7 at *
  generalize s.n 33 = m1 at *
  generalize s.n 43 = m2 at *
  generalize s.n 720 = m3 at *
  generalize s.n 993 = m4 at *
  generalize s.n 1026 = m5 at *
  generalize s.n 1059 = m6 at *
  obtain ⟨l1, l2, l3, l4, l5⟩ := hL
  obtain rfl : n2 = n1 := by omega
  obtain rfl : n3 = n2 := by omega
  obtain rfl : n4 = n3 := by omega
  obtain rfl : n5 = n4 := by omega
  clear l2 l3 l4 l5
  go_enter Tryd.func7, Tryd.ntmps7
  go_wp2
  all_goals
    go_ret
    exact ⟨rfl, (Below.refl _ _).alloc (Nat.le_refl _) _⟩
end Go.Proofs.YtfnjcpopadpmbaaDoor
