/- The parts of a state and of a Data that are compared: numbers in a row. -/
import Derived.Test.YtbfmbgeibhkheaaRFlagsF
import Derived.Test.YtbfmbgeibhkheaaRFlagsB
import Derived.Test.YtbfmbgeibhkheaaOpenSt
namespace Go.Proofs.Ytbfmbgeibhkheaa
open Go.RowKit
set_option maxRecDepth 100000

theorem stK_ck (o j : Nat) (ho : o = 993 ∨ o = 1026) (hj : j < 33) : stK (o + j) = some (ckK j) := by
  unfold stK ckK
  rw [if_neg (by omega)]
  by_cases h0 : j = 0
  · rw [if_pos (by omega), if_pos h0]
  · rw [if_neg (by omega), if_neg (by omega), if_neg h0]
theorem stK_root (r j : Nat) (hr : r < 8) (hj : j < 32) : stK (141 + r * 32 + j) = some .u8 := by
  unfold stK
  rw [if_neg (by omega), if_neg (by omega), if_neg (by omega)]
theorem st_fits {w : World} {xs : Array Value} {s : Sx} (h : StRep w xs s) : ∀ o, o = 993 ∨ o = 1026 → fits ((List.range 33).map fun j => (ckK j).lk) (cellsAt xs o 33) := fun o ho =>
  fits_of 33 ckK _ (cellsAt_length _ _ _ (by have := h.size; omega)) fun j hj => ⟨s.n (o + j), by rw [cellsAt_get _ _ _ _ hj]; exact (h.flat _ _ (stK_ck o j ho hj)).1⟩
theorem dt_fits {ds : Array Value} {d : Nat → Int} (h : FRep 100 dtK ds d) : fits ((List.range 33).map fun j => (ckK j).lk) (cellsAt ds 34 33) :=
  fits_of 33 ckK _ (cellsAt_length _ _ _ (by have := h.size; omega)) fun j hj => ⟨d (34 + j), by
    rw [cellsAt_get _ _ _ _ hj, (h.flat (34 + j) (by omega)).1]
    congr 2
    unfold dtK ckK
    by_cases h0 : j = 0
    · rw [if_pos (by omega), if_pos h0]
    · rw [if_neg (by omega), if_neg h0]⟩
theorem dt_fits_root {ds : Array Value} {d : Nat → Int} (h : FRep 100 dtK ds d) (o : Nat) (ho : o = 68 ∨ o = 2) : fits ((List.range 32).map fun j => (u8K j).lk) (cellsAt ds o 32) :=
  fits_of 32 u8K _ (cellsAt_length _ _ _ (by have := h.size; omega)) fun j hj => ⟨d (o + j), by
    rw [cellsAt_get _ _ _ _ hj, (h.flat (o + j) (by omega)).1]
    congr 2
    unfold dtK u8K
    rw [if_neg (by omega)]⟩
theorem zero_root : zeroOf Try.prog 24 = (List.replicate 32 (Value.int .u8 0)).toArray := by kernel_rfl
theorem rc_fits {w : World} {xs : Array Value} {s : Sx} (h : StRep w xs s) (k : Int) : fits ((List.range 32).map fun j => (u8K j).lk) (rootCells xs s k).toList := by
  unfold rootCells
  have hr : (k % 8).toNat < 8 := by omega
  generalize (k % 8).toNat = r at *
  split
  · exact fits_of 32 u8K _ (cellsAt_length _ _ _ (by have := h.size; omega)) fun j hj => ⟨s.n (141 + r * 32 + j), by rw [cellsAt_get _ _ _ _ hj]; exact (h.flat _ _ (stK_root r j hr hj)).1⟩
  · rw [zero_root]
    exact fits_of 32 u8K _ (by simp) fun j hj => ⟨0, by
      show (List.replicate 32 (Value.int .u8 0))[j]? = _
      rw [List.getElem?_replicate, if_pos hj]
      rfl⟩
theorem rc_size {w : World} {xs : Array Value} {s : Sx} (h : StRep w xs s) (k : Int) : (rootCells xs s k).size = 32 ∧ (rootCells xs s k).all (·.oneCell') = true := by
  unfold rootCells
  have hr : (k % 8).toNat < 8 := by omega
  generalize (k % 8).toNat = r at *
  split
  · exact ⟨cellsAt_length _ _ _ (by have := h.size; omega), cellsAt_one h.one _ _⟩
  · exact ⟨(row_zero rowT_24).2, by kernel_rfl⟩

/-- The three flags. -/
noncomputable def flagsV (xs ds : Array Value) (s : Sx) (d : Nat → Int) : Array Value :=
  #[.bool (decide (s.n 33 - d 0 ≤ 2)), .bool (eqCells (rootCells xs s (4 * d 67)).toList (cellsAt ds 68 32)),
    .bool (eqCells (rootCells xs s (4 * d 67)).toList (cellsAt ds 68 32) && (eqCells (rootCells xs s (d 0)).toList (cellsAt ds 2 32) && (s.n 33 - d 0 == 1)))]
def noFlags : Array Value := #[.bool false, .bool false, .bool false]
def srcB (xs ds : Array Value) (now : Bool) : Bool := eqCells (cellsAt xs (if now then 1026 else 993) 33) (cellsAt ds 34 33)
/-- What a vote is worth: the flags and the error. -/
noncomputable def voteV (xs ds : Array Value) (s : Sx) (d : Nat → Int) : Value :=
  if s.rightB = false then .tuple #[.agg noFlags, .int .i64 1]
  else if timesE (s.n 33) (d 0) (d 67) ≠ 0 then .tuple #[.agg noFlags, .int .i64 (timesE (s.n 33) (d 0) (d 67))]
  else if srcB xs ds (d 67 == s.n 33 / 4) then .tuple #[.agg (flagsV xs ds s d), .int .i64 0]
  else .tuple #[.agg noFlags, .int .i64 33]
theorem timesE_zero {a b t : Int} (h : timesE a b t = 0) : b < a ∧ a - b ≤ 4 ∧ t = b / 4 := by
  unfold timesE at h
  split at h
  · cases h
  · split at h
    · cases h
    · omega

theorem worth_any {w0 : World} (bx bd : Nat) (xs ds : Array Value) (fx fd : Nat × Nat) (s : Sx) (d : Nat → Int) (w : World) (hs : StRep w0 xs s) (hd : FRep 100 dtK ds d)
    (hX : w.heap[bx]? = some (.cells xs 49 fx)) (hD : w.heap[bd]? = some (.cells ds 51 fd)) (ht : timesE (s.n 33) (d 0) (d 67) = 0)
    (hroot : ∀ k w, 0 ≤ k → k ≤ 18446744073709551615 → Calls Try.prog 19 #[.agg xs, .int .u64 k] w fun e w' => e = .returned (.tuple #[.agg (rootCells xs s k), .int .i64 (if s.rootOk k then 0 else 1)]) ∧ Below w.heap.size w w') (now : Bool) :
    Calls Try.prog 11 #[.pointer (some ⟨bx, 0, none⟩), .pointer (some ⟨bd, 0, none⟩), .bool now] w fun e w' => e = .returned (if srcB xs ds now then .tuple #[.agg (flagsV xs ds s d), .int .i64 0] else .tuple #[.agg noFlags, .int .i64 33]) ∧ Below w.heap.size w w' := by
  obtain ⟨h1, h2, h3⟩ := timesE_zero ht
  have b0 : 0 ≤ d 0 ∧ d 0 ≤ 18446744073709551615 := (hd.flat 0 (by omega)).2
  have hb := hs.u64b 33 rfl
  have f67 := (hd.flat 67 (by omega)).1
  have f0 := (hd.flat 0 (by omega)).1
  cases now
  · cases hq : srcB xs ds false
    · exact worth_badF bx bd xs ds fx fd w hX hD hs.size hd.size (st_fits hs) (dt_fits hd) hq
    · exact worth_goodF bx bd xs ds fx fd (s.n 33) (d 0) (d 67) w hX hD hs.size hd.size (hs.u64 33 rfl) hb f0 b0 f67 h1 (by omega) (by omega) (st_fits hs) (dt_fits hd) hq (dt_fits_root hd 68 (Or.inl rfl)) (dt_fits_root hd 2 (Or.inr rfl)) _ _ (rc_fits hs) (rc_size hs) hroot
  · cases hq : srcB xs ds true
    · exact worth_bad bx bd xs ds fx fd w hX hD hs.size hd.size (st_fits hs) (dt_fits hd) hq
    · exact worth_good bx bd xs ds fx fd (s.n 33) (d 0) (d 67) w hX hD hs.size hd.size (hs.u64 33 rfl) hb f0 b0 f67 h1 (by omega) (by omega) (st_fits hs) (dt_fits hd) hq (dt_fits_root hd 68 (Or.inl rfl)) (dt_fits_root hd 2 (Or.inr rfl)) _ _ (rc_fits hs) (rc_size hs) hroot
theorem rflags_any {w0 : World} (xs ds : Array Value) (s : Sx) (d : Nat → Int) (w : World) (hs : StRep w0 xs s) (hd : FRep 100 dtK ds d) (ht : timesE (s.n 33) (d 0) (d 67) = 0)
    (hroot : ∀ k w, 0 ≤ k → k ≤ 18446744073709551615 → Calls Try.prog 22 #[.agg xs, .int .u64 k] w fun e w' => e = .returned (.tuple #[.agg (rootCells xs s k), .int .i64 (if s.rootOk k then 0 else 1)]) ∧ Below w.heap.size w w') :
    Calls Try.prog 13 #[.agg xs, .agg ds] w fun e w' => e = .returned (if srcB xs ds (d 67 == s.n 33 / 4) then .tuple #[.agg (flagsV xs ds s d), .int .i64 0] else .tuple #[.agg noFlags, .int .i64 33]) ∧ Below w.heap.size w w' := by
  obtain ⟨h1, h2, h3⟩ := timesE_zero ht
  have b0 : 0 ≤ d 0 ∧ d 0 ≤ 18446744073709551615 := (hd.flat 0 (by omega)).2
  have hb := hs.u64b 33 rfl
  have f67 := (hd.flat 67 (by omega)).1
  have f0 := (hd.flat 0 (by omega)).1
  cases hn : (d 67 == s.n 33 / 4)
  · cases hq : srcB xs ds false
    · exact rflags_FB xs ds (s.n 33) (d 0) (d 67) w hs.size hd.size hs.one (hs.u64 33 rfl) hb f0 b0 f67 h1 (by omega) (by omega) hn (st_fits hs) (dt_fits hd) hq (dt_fits_root hd 68 (Or.inl rfl)) (dt_fits_root hd 2 (Or.inr rfl)) _ _ (rc_fits hs) (rc_size hs) hroot
    · exact rflags_F xs ds (s.n 33) (d 0) (d 67) w hs.size hd.size hs.one (hs.u64 33 rfl) hb f0 b0 f67 h1 (by omega) (by omega) hn (st_fits hs) (dt_fits hd) hq (dt_fits_root hd 68 (Or.inl rfl)) (dt_fits_root hd 2 (Or.inr rfl)) _ _ (rc_fits hs) (rc_size hs) hroot
  · cases hq : srcB xs ds true
    · exact rflags_TB xs ds (s.n 33) (d 0) (d 67) w hs.size hd.size hs.one (hs.u64 33 rfl) hb f0 b0 f67 h1 (by omega) (by omega) hn (st_fits hs) (dt_fits hd) hq (dt_fits_root hd 68 (Or.inl rfl)) (dt_fits_root hd 2 (Or.inr rfl)) _ _ (rc_fits hs) (rc_size hs) hroot
    · exact rflags_T xs ds (s.n 33) (d 0) (d 67) w hs.size hd.size hs.one (hs.u64 33 rfl) hb f0 b0 f67 h1 (by omega) (by omega) hn (st_fits hs) (dt_fits hd) hq (dt_fits_root hd 68 (Or.inl rfl)) (dt_fits_root hd 2 (Or.inr rfl)) _ _ (rc_fits hs) (rc_size hs) hroot
theorem StRep.later {w w' : World} {xs : Array Value} {s : Sx} (h : StRep w xs s) (hb : Below w.heap.size w w') : StRep w' xs s := by
  obtain ⟨a, b, c, ⟨a1, c1, h1, r1, b1⟩, ⟨a2, c2, h2, r2, b2⟩, ⟨a3, c3, h3, r3, b3⟩, ⟨a4, c4, h4, r4, b4⟩, ⟨a5, c5, h5, r5, b5⟩, ⟨a6, c6, h6, r6, b6⟩, ⟨a7, c7, h7, r7, b7⟩⟩ := h
  exact ⟨a, b, c, ⟨a1, c1, h1, r1.later hb, b1⟩, ⟨a2, c2, h2, r2.later hb, b2⟩, ⟨a3, c3, h3, r3.later hb, b3⟩, ⟨a4, c4, h4, r4.later hb, b4⟩, ⟨a5, c5, h5, r5.later hb, b5⟩, ⟨a6, c6, h6, r6.later hb, b6⟩, ⟨a7, c7, h7, r7.later hb, b7⟩⟩
end Go.Proofs.Ytbfmbgeibhkheaa
