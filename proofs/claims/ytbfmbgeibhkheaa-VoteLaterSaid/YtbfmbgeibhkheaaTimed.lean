/- timed of the program. -/
import Derived.Test.YtbfmbgeibhkheaaTimes
import Derived.BigQuiet
namespace Go.Proofs.Ytbfmbgeibhkheaa
open Go.RowKit
set_option maxRecDepth 100000

theorem drewN_below (w : World) (n : Nat) : Below w.heap.size w (w.drewN n) := ⟨rfl, rfl, rfl, Nat.le_refl _, fun _ _ => rfl⟩
set_option maxHeartbeats 4000000 in
theorem timed_any (bx bd : Nat) (slot dslot t : Int) (w : World) (f33 : w.cell? ⟨bx, 33, none⟩ = some (.int .u64 slot)) (g33 : 0 ≤ slot ∧ slot ≤ 18446744073709551615)
    (d0 : w.cell? ⟨bd, 0, none⟩ = some (.int .u64 dslot)) (b0 : 0 ≤ dslot ∧ dslot ≤ 18446744073709551615) (d67 : w.cell? ⟨bd, 67, none⟩ = some (.int .u64 t)) :
    Calls Try.prog 10 #[.pointer (some ⟨bx, 0, none⟩), .pointer (some ⟨bd, 0, none⟩)] w fun e w' => e = .returned (.tuple #[.bool (timesE slot dslot t == 0 && t == slot / 4), .int .i64 (timesE slot dslot t)]) ∧ Below w.heap.size w w' := by
  have hL := Lib.hid (fun w => less_any (slot / 4) 1 w (by omega) (by omega) (by omega) (by omega))
  have hd : Hid (beforeI slot = if slot / 4 ≤ 1 then 0 else slot / 4 - 1) := Lib.hid rfl
  have hT := Lib.hid (show timesE slot dslot t = if (t ≠ slot / 4 ∧ t ≠ beforeI slot) ∨ t ≠ dslot / 4 then 29 else if slot ≤ dslot ∨ 4 < slot - dslot then 31 else 0 from rfl)
  generalize timesE slot dslot t = E at *
  rw [← hd.out] at hL
  clear hd
  generalize beforeI slot = q at *
  cases t1 : (t != slot / 4)
  · cases t3 : (t != dslot / 4)
    · cases c4 : decide (slot ≤ dslot)
      · have w5 : IntKind.u64.wrap (slot - dslot) = slot - dslot := IntWalk.u64_in _ (by simp at c4; omega)
        cases c5 : decide (4 < slot - dslot)
        · have hT' : Hid (E = 0) := Lib.hid (by rw [hT.out]; simp at t1 t3 c4 c5; split <;> first | omega | (split <;> omega))
          clear hT
          go_enter Try.func10, Try.ntmps10
          go_wp2_with ((with_reducible refine (hL.out _).mono ?_); rintro e w' ⟨rfl, rfl⟩)
          go_quiet (fail)
          go_wp2
          go_ret2
          exact ⟨by rw [hT'.out]; simp, drewN_below _ _⟩
        · have hT' : Hid (E = 31) := Lib.hid (by rw [hT.out]; simp at t1 t3 c4 c5; split <;> first | omega | (split <;> omega))
          clear hT
          go_enter Try.func10, Try.ntmps10
          go_wp2_with ((with_reducible refine (hL.out _).mono ?_); rintro e w' ⟨rfl, rfl⟩)
          go_quiet (fail)
          go_wp2
          go_ret2
          exact ⟨by rw [hT'.out]; rfl, drewN_below _ _⟩
      · have hT' : Hid (E = 31) := Lib.hid (by rw [hT.out]; simp at t1 t3 c4; split <;> first | omega | (split <;> omega))
        clear hT
        go_enter Try.func10, Try.ntmps10
        go_wp2_with ((with_reducible refine (hL.out _).mono ?_); rintro e w' ⟨rfl, rfl⟩)
        go_quiet (fail)
        go_wp2
        go_ret2
        exact ⟨by rw [hT'.out]; rfl, drewN_below _ _⟩
    · have hT' : Hid (E = 29) := Lib.hid (by rw [hT.out]; simp at t1 t3; split <;> first | omega | (split <;> omega))
      clear hT
      go_enter Try.func10, Try.ntmps10
      go_wp2_with ((with_reducible refine (hL.out _).mono ?_); rintro e w' ⟨rfl, rfl⟩)
      go_ret2
      exact ⟨by rw [hT'.out]; rfl, Below.refl _ _⟩
  · cases t2 : (t != q)
    · cases t3 : (t != dslot / 4)
      · cases c4 : decide (slot ≤ dslot)
        · have w5 : IntKind.u64.wrap (slot - dslot) = slot - dslot := IntWalk.u64_in _ (by simp at c4; omega)
          cases c5 : decide (4 < slot - dslot)
          · have hT' : Hid (E = 0) := Lib.hid (by rw [hT.out]; simp at t1 t2 t3 c4 c5; split <;> first | omega | (split <;> omega))
            clear hT
            go_enter Try.func10, Try.ntmps10
            go_wp2_with ((with_reducible refine (hL.out _).mono ?_); rintro e w' ⟨rfl, rfl⟩)
            go_quiet (fail)
            go_wp2
            go_ret2
            exact ⟨by rw [hT'.out]; simp, drewN_below _ _⟩
          · have hT' : Hid (E = 31) := Lib.hid (by rw [hT.out]; simp at t1 t2 t3 c4 c5; split <;> first | omega | (split <;> omega))
            clear hT
            go_enter Try.func10, Try.ntmps10
            go_wp2_with ((with_reducible refine (hL.out _).mono ?_); rintro e w' ⟨rfl, rfl⟩)
            go_quiet (fail)
            go_wp2
            go_ret2
            exact ⟨by rw [hT'.out]; rfl, drewN_below _ _⟩
        · have hT' : Hid (E = 31) := Lib.hid (by rw [hT.out]; simp at t1 t2 t3 c4; split <;> first | omega | (split <;> omega))
          clear hT
          go_enter Try.func10, Try.ntmps10
          go_wp2_with ((with_reducible refine (hL.out _).mono ?_); rintro e w' ⟨rfl, rfl⟩)
          go_quiet (fail)
          go_wp2
          go_ret2
          exact ⟨by rw [hT'.out]; rfl, drewN_below _ _⟩
      · have hT' : Hid (E = 29) := Lib.hid (by rw [hT.out]; simp at t1 t2 t3; split <;> first | omega | (split <;> omega))
        clear hT
        go_enter Try.func10, Try.ntmps10
        go_wp2_with ((with_reducible refine (hL.out _).mono ?_); rintro e w' ⟨rfl, rfl⟩)
        go_ret2
        exact ⟨by rw [hT'.out]; rfl, Below.refl _ _⟩
    · have hT' : Hid (E = 29) := Lib.hid (by rw [hT.out]; simp at t1 t2; split <;> first | omega | (split <;> omega))
      clear hT
      go_enter Try.func10, Try.ntmps10
      go_wp2_with ((with_reducible refine (hL.out _).mono ?_); rintro e w' ⟨rfl, rfl⟩)
      go_ret2
      exact ⟨by rw [hT'.out]; rfl, Below.refl _ _⟩
end Go.Proofs.Ytbfmbgeibhkheaa
