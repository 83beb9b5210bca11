/- VoteLater: what a vote is worth a slot later, in plain words; the law. -/
import Derived.Test.YtbfmbgeibhkheaaLaw4
import Derived.Test.YtbfmbgeibhkheaaLaw3
namespace Go.Proofs.Ytbfmbgeibhkheaa
open Go.RowKit
set_option maxRecDepth 100000

/-- The state a slot later. -/
def Sx.bump (s : Sx) : Sx := { s with n := fun k => if k = 33 then s.n 33 + 1 else s.n k }
noncomputable def bumpX (xs : Array Value) (s : Sx) : Array Value := xs.setIfInBounds 33 (.int .u64 (s.n 33 + 1))
theorem bump_other (xs : Array Value) (v : Value) (k : Nat) (h : k ≠ 33) : (xs.setIfInBounds 33 v)[k]? = xs[k]? := by
  rw [Array.getElem?_setIfInBounds_ne (Ne.symm h)]
theorem SlI.bump {w : World} {xs : Array Value} {k : Nat} {c : CK} {l : List Int} (h : SlI w xs k c l) (v : Value) (hk : k ≠ 33) : SlI w (xs.setIfInBounds 33 v) k c l := by
  obtain ⟨va, cap, h1, h2, h3⟩ := h
  exact ⟨va, cap, (bump_other xs v k hk).trans h1, h2, h3⟩
theorem SlS.bump {w : World} {xs : Array Value} {k sz : Nat} {kd : Nat → CK} {l : List (Nat → Int)} (h : SlS w xs k sz kd l) (v : Value) (hk : k ≠ 33) : SlS w (xs.setIfInBounds 33 v) k sz kd l := by
  obtain ⟨va, cap, h1, h2, h3⟩ := h
  exact ⟨va, cap, (bump_other xs v k hk).trans h1, h2, h3⟩
theorem StRep.bump {w : World} {xs : Array Value} {s : Sx} (h : StRep w xs s) (hb : s.n 33 + 1 ≤ 18446744073709551615) : StRep w (bumpX xs s) s.bump := by
  have h0 := h.u64b 33 rfl
  have hsz := h.size
  refine ⟨by simp [bumpX, hsz], fun v hv => ?_, fun k c hk => ?_, h.hist.bump _ (by omega), h.votes.bump _ (by omega), h.vals.bump _ (by omega), h.bals.bump _ (by omega), h.prev.bump _ (by omega), h.cur.bump _ (by omega), h.scores.bump _ (by omega)⟩
  · unfold bumpX at hv
    rcases Array.mem_or_eq_of_mem_setIfInBounds hv with h1 | h1
    · exact h.one v h1
    · rw [h1]; rfl
  · by_cases e : k = 33
    · subst e
      have : c = .u64 := by
        have : stK 33 = some .u64 := rfl
        rw [this] at hk
        exact (Option.some.inj hk).symm
      subst this
      refine ⟨?_, ?_⟩
      · unfold bumpX
        rw [bump_get _ _ (by omega)]
        simp [Sx.bump, CK.mk]
      · simp only [Sx.bump, if_true, CK.ok]
        omega
    · obtain ⟨h1, h2⟩ := h.flat k c hk
      unfold bumpX
      rw [bump_other _ _ _ e]
      simp only [Sx.bump, if_neg e]
      exact ⟨h1, h2⟩
theorem cellsAt_bump (xs : Array Value) (v : Value) (o n : Nat) (h : 33 < o) : cellsAt (xs.setIfInBounds 33 v) o n = cellsAt xs o n := by
  unfold cellsAt
  rw [Array.toList_setIfInBounds, List.drop_set, if_pos h]
theorem root_bump (xs : Array Value) (s : Sx) (k : Int) (h1 : k < s.n 33) (h2 : s.n 33 + 1 - k ≤ 8) : rootCells (bumpX xs s) s.bump k = rootCells xs s k := by
  have e1 : s.rootOk k = true := by simp [Sx.rootOk]; omega
  have e2 : s.bump.rootOk k = true := by simp [Sx.rootOk, Sx.bump]; omega
  unfold rootCells bumpX
  rw [e1, e2, if_pos rfl, if_pos rfl, cellsAt_bump _ _ _ _ (by omega)]
theorem src_bump (xs ds : Array Value) (s : Sx) (now : Bool) : srcB (bumpX xs s) ds now = srcB xs ds now := by
  unfold srcB bumpX
  rw [cellsAt_bump _ _ _ _ (by split <;> omega)]
theorem times_bump {a b t : Int} (h : timesE a b t = 0) (hq : (a + 1) / 4 = a / 4) : timesE (a + 1) b t = if 4 < a + 1 - b then 31 else 0 := by
  obtain ⟨h1, h2, h3⟩ := timesE_zero h
  unfold timesE at h ⊢
  have hb : beforeI (a + 1) = beforeI a := by
    unfold beforeI
    first | omega | (simp only [hq]) | (split <;> split <;> omega)
  rw [hb, hq]
  split at h
  · cases h
  · rename_i hn
    rw [if_neg hn]
    by_cases c : 4 < a + 1 - b
    · rw [if_pos (Or.inr c), if_pos c]
    · rw [if_neg (by omega), if_neg c]
/-- VoteLater answers true. -/
theorem law4_any (xs ds : Array Value) (s : Sx) (d : Nat → Int) (w : World) (hs : StRep w xs s) (hd : FRep 100 dtK ds d) :
    Calls Try.prog 4 #[.agg xs, .agg ds] w fun e w' => e = .returned (.bool true) ∧ Below w.heap.size w w' := by
  have hone : xs.all (·.oneCell') = true := by
    rw [Array.all_eq_true_iff_forall_mem]
    exact hs.one
  have f33 := hs.u64 33 rfl
  have g33 := hs.u64b 33 rfl
  have fd0 : ds[0]? = some (.int .u64 (d 0)) := (hd.flat 0 (by omega)).1
  have b0 : 0 ≤ d 0 ∧ d 0 ≤ 18446744073709551615 := (hd.flat 0 (by omega)).2
  have hA := fun W (hb : Below w.heap.size w W) => flags_any xs ds s d W (hs.later hb) hd
  have no : ∀ x0 x1 x2 ec, voteV xs ds s d = .tuple #[.agg #[.bool x0, .bool x1, .bool x2], .int .i64 ec] → (ec != 0) = true → Calls Try.prog 4 #[.agg xs, .agg ds] w fun e w' => e = .returned (.bool true) ∧ Below w.heap.size w w' := fun x0 x1 x2 ec he hz =>
    law4_no xs ds w x0 x1 x2 ec (s.n 33) hs.size hone hd.size f33 g33 hz (by rw [← he]; exact hA)
  by_cases hw : s.rightB = false
  · exact no false false false 1 (by unfold voteV; rw [if_pos hw]; rfl) rfl
  have hw' : s.rightB = true := by simpa using hw
  by_cases ht : timesE (s.n 33) (d 0) (d 67) = 0
  · cases hq : srcB xs ds (d 67 == s.n 33 / 4)
    · exact no false false false 33 (by unfold voteV; rw [if_neg hw, if_neg (by simpa using ht), hq]; rfl) rfl
    · obtain ⟨t1, t2, t3⟩ := timesE_zero ht
      have hsl : s.n 33 < 1099511627776 := by
        simp only [Sx.rightB, Sx.numsB, Bool.and_eq_true, decide_eq_true_eq] at hw'
        exact hw'.2.1.1.1
      have he : voteV xs ds s d = .tuple #[.agg (flagsV xs ds s d), .int .i64 0] := by unfold voteV; rw [if_neg hw, if_neg (by simpa using ht), hq]; rfl
      have hy := hs.bump (by omega)
      rw [he] at hA
      have hR := fun W (hb : Below w.heap.size w W) => rright_any (bumpX xs s) s.bump W (hy.later hb)
      have hG := fun W (hb : Below w.heap.size w W) => flags_any (bumpX xs s) ds s.bump d W (hy.later hb) hd
      have g33' : 0 ≤ s.n 33 ∧ s.n 33 ≤ 1099511627776 := by omega
      by_cases ce : (s.n 33 + 1) / 4 = s.n 33 / 4
      · have cq : ((s.n 33 + 1) / 4 != s.n 33 / 4) = false := by simp [ce]
        cases hr : s.bump.rightB
        · rw [hr] at hR
          exact law4_wrong xs ds w _ _ _ (s.n 33) hs.size hone hd.size f33 g33' hA cq hR
        · rw [hr] at hR
          have hn : s.bump.n 33 = s.n 33 + 1 := rfl
          have ht' := times_bump ht ce
          by_cases c4 : 4 < s.n 33 + 1 - d 0
          · have hv : voteV (bumpX xs s) ds s.bump d = .tuple #[.agg #[.bool false, .bool false, .bool false], .int .i64 31] := by
              unfold voteV
              rw [if_neg (by simp [hr]), hn, ht', if_pos c4, if_pos (by decide)]
              rfl
            rw [hv] at hG
            exact law4_late xs ds w _ _ _ (s.n 33) hs.size hone hd.size f33 g33' hA cq false false false 31 rfl hR hG (d 0) fd0 b0.1 c4
          · have hroot : rootCells (bumpX xs s) s.bump (4 * d 67) = rootCells xs s (4 * d 67) := root_bump xs s _ (by omega) (by omega)
            have hv : voteV (bumpX xs s) ds s.bump d = .tuple #[.agg #[.bool (decide (s.n 33 + 1 - d 0 ≤ 2)), .bool (eqCells (rootCells xs s (4 * d 67)).toList (cellsAt ds 68 32)), .bool false], .int .i64 0] := by
              unfold voteV
              rw [if_neg (by simp [hr]), hn, ht', if_neg c4, if_neg (by decide), ce, src_bump, hq, if_pos rfl]
              unfold flagsV
              rw [hroot, hn]
              have e : (s.n 33 + 1 - d 0 == 1) = false := by
                rw [beq_eq_false_iff_ne]
                omega
              rw [e, Bool.and_false, Bool.and_false]
            rw [hv] at hG
            by_cases c2 : s.n 33 + 1 - d 0 ≤ 2
            · have e2 : decide (s.n 33 + 1 - d 0 ≤ 2) = true := by simpa using c2
              have e3 : decide (s.n 33 - d 0 ≤ 2) = true := by
                rw [decide_eq_true_eq]
                omega
              rw [e2] at hG
              unfold flagsV at hA
              rw [e3] at hA
              exact law4_high xs ds w _ _ (s.n 33) hs.size hone hd.size f33 g33' hA cq hR hG (d 0) fd0
            · have e2 : decide (s.n 33 + 1 - d 0 ≤ 2) = false := by simpa using c2
              rw [e2] at hG
              exact law4_low xs ds w _ _ _ (s.n 33) hs.size hone hd.size f33 g33' hA cq hR hG (d 0) fd0
      · exact law4_epoch xs ds w _ _ _ (s.n 33) hs.size hone hd.size f33 g33' hA (by simpa using ce)
  · refine no false false false (timesE (s.n 33) (d 0) (d 67)) ?_ (by simpa using ht)
    unfold voteV
    rw [if_neg hw, if_pos (by simpa using ht)]
    rfl
end Go.Proofs.Ytbfmbgeibhkheaa
