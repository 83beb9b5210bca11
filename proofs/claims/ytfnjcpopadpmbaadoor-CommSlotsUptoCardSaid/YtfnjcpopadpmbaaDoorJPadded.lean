/- block of the reference: a block more; its words, its schedule, its rounds. -/
/- block of the reference: the rounds, and the whole. -/
/- Slices of bytes that the call itself makes: what append leaves. -/
/- Padded of the reference: a message and what is laid behind it. -/
import Derived.Test.YtfnjcpopadpmbaaDoorJTwo
import Derived.Laws.AppendOwnNone
set_option linter.unusedVariables false
set_option linter.unusedSimpArgs false
set_option linter.unnecessarySimpa false
namespace Go.Proofs.YtfnjcpopadpmbaaDoor
open Go.RowKit BigFrame
set_option maxRecDepth 100000
theorem rot_i (x : W32) (k : Int) (h1 : 1 ≤ k) (h2 : k ≤ 31) (w : World) :
    Calls Tryd.prog 69 #[.int .u32 (wi x), .int .u64 k] w fun e w' => e = .returned (.int .u32 (wi (rotI x k))) ∧ w' = w := by
  obtain ⟨m, rfl⟩ := Int.eq_ofNat_of_zero_le (show 0 ≤ k by omega)
  exact rot_any x m (by omega) w
def BlkA (bb bo len cap n : Nat) (u : Nat → Value) : Act := { tmps := #[u 0, .slice (some ⟨bb, bo, none⟩) len cap, .pointer (some ⟨n, 0, none⟩), u 3, .pointer (some ⟨n + 1, 0, none⟩), .pointer (some ⟨n + 1 + 1, 0, none⟩), .int .i64 0, u 7, u 8, u 9, u 10, u 11, u 12, u 13, u 14, u 15, u 16, u 17, u 18, u 19, u 20, u 21, u 22, u 23, u 24, u 25, u 26, u 27, u 28, u 29, u 30, u 31, u 32, u 33, u 34, u 35, u 36, u 37, u 38, u 39, u 40, u 41, u 42, u 43, u 44, u 45, u 46, u 47, u 48, u 49, u 50, u 51, u 52, u 53, u 54, u 55, u 56, u 57, u 58, u 59, u 60, u 61, u 62, u 63, u 64, u 65, u 66, u 67, u 68, u 69, u 70, u 71, u 72, u 73, u 74, u 75, u 76, u 77, u 78, u 79, u 80, u 81, u 82, u 83, u 84, u 85, u 86, u 87, u 88, u 89, u 90, u 91, u 92, u 93, u 94, u 95, u 96, u 97, u 98, u 99, u 100, u 101, u 102, u 103, u 104, u 105, u 106, u 107, u 108, u 109, u 110, u 111, u 112, u 113, u 114, u 115, u 116, u 117, u 118, u 119, u 120, u 121, u 122, u 123, u 124, u 125, u 126, u 127, u 128, u 129, u 130, u 131, u 132, u 133, u 134, u 135, u 136, u 137, u 138, u 139, u 140, u 141, u 142, u 143, u 144, u 145, u 146, u 147, u 148, u 149, u 150, u 151, u 152, u 153, u 154, u 155, u 156, u 157, u 158, u 159, u 160, u 161, u 162, u 163, u 164, u 165, u 166, u 167, u 168, u 169, u 170, u 171, u 172, u 173, u 174, u 175, u 176, u 177, u 178, u 179, u 180, u 181, u 182, u 183, u 184, u 185, u 186, u 187, u 188, u 189, u 190, u 191, u 192, u 193, u 194, u 195, u 196, u 197, u 198, u 199, u 200, u 201, u 202, u 203, u 204, u 205, u 206, u 207, u 208, u 209, u 210, u 211, u 212], defers := [] }
def BlkB (bb bo len cap n : Nat) (u : Nat → Value) : Act := { tmps := #[u 0, .slice (some ⟨bb, bo, none⟩) len cap, .pointer (some ⟨n, 0, none⟩), u 3, .pointer (some ⟨n + 1, 0, none⟩), .pointer (some ⟨n + 1 + 1, 0, none⟩), u 6, u 7, u 8, u 9, u 10, u 11, u 12, u 13, u 14, u 15, u 16, u 17, u 18, u 19, u 20, u 21, u 22, u 23, u 24, u 25, u 26, u 27, u 28, u 29, u 30, u 31, u 32, u 33, u 34, u 35, u 36, u 37, u 38, u 39, u 40, u 41, u 42, u 43, u 44, u 45, u 46, u 47, u 48, u 49, u 50, u 51, u 52, u 53, u 54, u 55, u 56, u 57, u 58, u 59, u 60, u 61, u 62, u 63, u 64, u 65, u 66, u 67, u 68, u 69, u 70, u 71, u 72, u 73, u 74, u 75, u 76, u 77, u 78, u 79, u 80, u 81, u 82, u 83, u 84, u 85, u 86, u 87, u 88, u 89, u 90, u 91, u 92, u 93, u 94, u 95, u 96, u 97, u 98, u 99, u 100, u 101, u 102, u 103, u 104, u 105, u 106, u 107, u 108, u 109, u 110, u 111, u 112, u 113, u 114, u 115, u 116, u 117, u 118, u 119, u 120, u 121, u 122, u 123, u 124, u 125, u 126, u 127, u 128, u 129, u 130, u 131, u 132, u 133, u 134, u 135, u 136, u 137, u 138, u 139, u 140, u 141, u 142, u 143, u 144, u 145, u 146, u 147, u 148, u 149, u 150, u 151, u 152, u 153, u 154, u 155, u 156, u 157, u 158, u 159, u 160, u 161, u 162, u 163, u 164, u 165, u 166, u 167, u 168, u 169, u 170, u 171, u 172, u 173, u 174, u 175, u 176, u 177, u 178, u 179, u 180, u 181, u 182, u 183, u 184, u 185, u 186, u 187, u 188, u 189, u 190, u 191, u 192, u 193, u 194, u 195, u 196, u 197, u 198, u 199, u 200, u 201, u 202, u 203, u 204, u 205, u 206, u 207, u 208, u 209, u 210, u 211, u 212], defers := [] }
def BlkC (bb bo len cap n : Nat) (u : Nat → Value) : Act := { tmps := #[u 0, .slice (some ⟨bb, bo, none⟩) len cap, .pointer (some ⟨n, 0, none⟩), u 3, .pointer (some ⟨n + 1, 0, none⟩), .pointer (some ⟨n + 1 + 1, 0, none⟩), u 6, .int .i64 16, u 8, u 9, u 10, u 11, u 12, u 13, u 14, u 15, u 16, u 17, u 18, u 19, u 20, u 21, u 22, u 23, u 24, u 25, u 26, u 27, u 28, u 29, u 30, u 31, u 32, u 33, u 34, u 35, u 36, u 37, u 38, u 39, u 40, u 41, u 42, u 43, u 44, u 45, u 46, u 47, u 48, u 49, u 50, u 51, u 52, u 53, u 54, u 55, u 56, u 57, u 58, u 59, u 60, u 61, u 62, u 63, u 64, u 65, u 66, u 67, u 68, u 69, u 70, u 71, u 72, u 73, u 74, u 75, u 76, u 77, u 78, u 79, u 80, u 81, u 82, u 83, u 84, u 85, u 86, u 87, u 88, u 89, u 90, u 91, u 92, u 93, u 94, u 95, u 96, u 97, u 98, u 99, u 100, u 101, u 102, u 103, u 104, u 105, u 106, u 107, u 108, u 109, u 110, u 111, u 112, u 113, u 114, u 115, u 116, u 117, u 118, u 119, u 120, u 121, u 122, u 123, u 124, u 125, u 126, u 127, u 128, u 129, u 130, u 131, u 132, u 133, u 134, u 135, u 136, u 137, u 138, u 139, u 140, u 141, u 142, u 143, u 144, u 145, u 146, u 147, u 148, u 149, u 150, u 151, u 152, u 153, u 154, u 155, u 156, u 157, u 158, u 159, u 160, u 161, u 162, u 163, u 164, u 165, u 166, u 167, u 168, u 169, u 170, u 171, u 172, u 173, u 174, u 175, u 176, u 177, u 178, u 179, u 180, u 181, u 182, u 183, u 184, u 185, u 186, u 187, u 188, u 189, u 190, u 191, u 192, u 193, u 194, u 195, u 196, u 197, u 198, u 199, u 200, u 201, u 202, u 203, u 204, u 205, u 206, u 207, u 208, u 209, u 210, u 211, u 212], defers := [] }
def BlkD (bb bo len cap n : Nat) (s : Hs) (u : Nat → Value) : Act := { tmps := #[u 0, .slice (some ⟨bb, bo, none⟩) len cap, .pointer (some ⟨n, 0, none⟩), u 3, .pointer (some ⟨n + 1, 0, none⟩), .pointer (some ⟨n + 1 + 1, 0, none⟩), u 6, u 7, u 8, u 9, .int .u32 (wi s.a), .int .u32 (wi s.b), .int .u32 (wi s.c), .int .u32 (wi s.d), .int .u32 (wi s.e), .int .u32 (wi s.f), .int .u32 (wi s.g), .int .u32 (wi s.l), .int .i64 0, u 19, u 20, u 21, u 22, u 23, u 24, u 25, u 26, u 27, u 28, u 29, u 30, u 31, u 32, u 33, u 34, u 35, u 36, u 37, u 38, u 39, u 40, u 41, u 42, u 43, u 44, u 45, u 46, u 47, u 48, u 49, u 50, u 51, u 52, u 53, u 54, u 55, u 56, u 57, u 58, u 59, u 60, u 61, u 62, u 63, u 64, u 65, u 66, u 67, u 68, u 69, u 70, u 71, u 72, u 73, u 74, u 75, u 76, u 77, u 78, u 79, u 80, u 81, u 82, u 83, u 84, u 85, u 86, u 87, u 88, u 89, u 90, u 91, u 92, u 93, u 94, u 95, u 96, u 97, u 98, u 99, u 100, u 101, u 102, u 103, u 104, u 105, u 106, u 107, u 108, u 109, u 110, u 111, u 112, u 113, u 114, u 115, u 116, u 117, u 118, u 119, u 120, u 121, u 122, u 123, u 124, u 125, u 126, u 127, u 128, u 129, u 130, u 131, u 132, u 133, u 134, u 135, u 136, u 137, u 138, u 139, u 140, u 141, u 142, u 143, u 144, u 145, u 146, u 147, u 148, u 149, u 150, u 151, u 152, u 153, u 154, u 155, u 156, u 157, u 158, u 159, u 160, u 161, u 162, u 163, u 164, u 165, u 166, u 167, u 168, u 169, u 170, u 171, u 172, u 173, u 174, u 175, u 176, u 177, u 178, u 179, u 180, u 181, u 182, u 183, u 184, u 185, u 186, u 187, u 188, u 189, u 190, u 191, u 192, u 193, u 194, u 195, u 196, u 197, u 198, u 199, u 200, u 201, u 202, u 203, u 204, u 205, u 206, u 207, u 208, u 209, u 210, u 211, u 212], defers := [] }
def BlkE (bb bo len cap n : Nat) (s : Hs) (u : Nat → Value) : Act := { tmps := #[u 0, .slice (some ⟨bb, bo, none⟩) len cap, .pointer (some ⟨n, 0, none⟩), u 3, .pointer (some ⟨n + 1, 0, none⟩), .pointer (some ⟨n + 1 + 1, 0, none⟩), u 6, u 7, u 8, u 9, .int .u32 (wi s.a), .int .u32 (wi s.b), .int .u32 (wi s.c), .int .u32 (wi s.d), .int .u32 (wi s.e), .int .u32 (wi s.f), .int .u32 (wi s.g), .int .u32 (wi s.l), u 18, u 19, u 20, u 21, u 22, u 23, u 24, u 25, u 26, u 27, u 28, u 29, u 30, u 31, u 32, u 33, u 34, u 35, u 36, u 37, u 38, u 39, u 40, u 41, u 42, u 43, u 44, u 45, u 46, u 47, u 48, u 49, u 50, u 51, u 52, u 53, u 54, u 55, u 56, u 57, u 58, u 59, u 60, u 61, u 62, u 63, u 64, u 65, u 66, u 67, u 68, u 69, u 70, u 71, u 72, u 73, u 74, u 75, u 76, u 77, u 78, u 79, u 80, u 81, u 82, u 83, u 84, u 85, u 86, u 87, u 88, u 89, u 90, u 91, u 92, u 93, u 94, u 95, u 96, u 97, u 98, u 99, u 100, u 101, u 102, u 103, u 104, u 105, u 106, u 107, u 108, u 109, u 110, u 111, u 112, u 113, u 114, u 115, u 116, u 117, u 118, u 119, u 120, u 121, u 122, u 123, u 124, u 125, u 126, u 127, u 128, u 129, u 130, u 131, u 132, u 133, u 134, u 135, u 136, u 137, u 138, u 139, u 140, u 141, u 142, u 143, u 144, u 145, u 146, u 147, u 148, u 149, u 150, u 151, u 152, u 153, u 154, u 155, u 156, u 157, u 158, u 159, u 160, u 161, u 162, u 163, u 164, u 165, u 166, u 167, u 168, u 169, u 170, u 171, u 172, u 173, u 174, u 175, u 176, u 177, u 178, u 179, u 180, u 181, u 182, u 183, u 184, u 185, u 186, u 187, u 188, u 189, u 190, u 191, u 192, u 193, u 194, u 195, u 196, u 197, u 198, u 199, u 200, u 201, u 202, u 203, u 204, u 205, u 206, u 207, u 208, u 209, u 210, u 211, u 212], defers := [] }
/-- The words of a schedule in the making. -/
def Words64 (n : Nat) (M : Nat → W32) (k : Nat) (w wr : World) : Prop :=
  ∃ C : Array Value, wr.heap[n]? = some (.cells C 123 (0, 0)) ∧ C.size = 64 ∧ (∀ j, j < k → C[j]? = some (.int .u32 (wi (M j)))) ∧ Below n w wr
theorem Words64.step {n : Nat} {M : Nat → W32} {k : Nat} {w wr : World} {C : Array Value} (hC : wr.heap[n]? = some (.cells C 123 (0, 0))) (hs : C.size = 64) (hw : ∀ j, j < k → C[j]? = some (.int .u32 (wi (M j)))) (hk : k < 64) (hb : Below n w wr) :
    Words64 n M (k + 1) w (wr.setCell ⟨n, k, none⟩ (.int .u32 (wi (M k)))) := by
  refine ⟨C.setIfInBounds k (.int .u32 (wi (M k))), Joins.block_setCell hC _, by simp [hs], fun j hj => ?_, hb.setCell (by simp) _⟩
  by_cases e : j = k
  · subst e
    simp [hs, hk]
  · rw [Array.getElem?_setIfInBounds_ne (Ne.symm e)]
    exact hw j (by omega)
noncomputable def blkHead : Code := blockIn 0 Tryd.f59
noncomputable def blkSched : Code := blockIn 2 Tryd.f59
noncomputable def blkRounds : Code := blockIn 4 Tryd.f59
set_option maxHeartbeats 8000000 in
theorem blk_head {Q : Exit → Act → World → Prop} {a : Act} (bb bo len cap n : Nat) (f : Nat → Int) (w W : World) (hn : w.heap.size = n + 1 + 1) (hl : 64 ≤ len) (hl2 : len ≤ 9223372036854775807)
    (hby : ∀ j, j < 64 → w.cell? ⟨bb, bo + j, none⟩ = some (.int .u8 (f j)) ∧ IsB (f j)) (hbb : bb < w.heap.size) (ha : a = BlkA bb bo len cap n (fun k => a.tmps.getD k undef))
    (hM : Words64 (n + 1 + 1) (shaW (msgW f)) 0 w W) (hQ : ∀ a w', a = BlkB bb bo len cap n (fun k => a.tmps.getD k undef) → Words64 (n + 1 + 1) (shaW (msgW f)) 16 w w' → Q .normal a w') : blkHead.wp Tryd.prog (Exit.inBlock 0 Q) a W := by
  rw [ha]
  generalize (fun k => a.tmps.getD k undef) = u
  clear ha a
  unfold BlkA
  have hby' := Lib.hid hby
  clear hby
  simp only [blkHead, blockIn, Tryd.f59, blockOf, reduceIte, Nat.reduceEqDiff]
  go_loopw [6] (fun i wr => ∃ k : Nat, k ≤ 16 ∧ i = .int .i64 k ∧ Words64 (n + 1 + 1) (shaW (msgW f)) k w wr) (fun i _ => 16 - (intOf i).toNat)
  case atStart => exact ⟨0, by omega, rfl, hM⟩
  case round =>
    obtain ⟨k, hk, rfl, C, hC, hCs, hCw, hB⟩ := hrel
    by_cases hlt : k < 16
    · have by0 := (hby'.out (4 * k) (by omega)).1
      have by1 := (hby'.out (4 * k + 1) (by omega)).1
      have by2 := (hby'.out (4 * k + 2) (by omega)).1
      have by3 := (hby'.out (4 * k + 3) (by omega)).1
      rw [← hB.cell (by simp only; omega)] at by0 by1 by2 by3
      generalize hf0 : f (4 * k) = f0 at by0
      generalize hf1 : f (4 * k + 1) = f1 at by1
      generalize hf2 : f (4 * k + 2) = f2 at by2
      generalize hf3 : f (4 * k + 3) = f3 at by3
      have wa : IntKind.i64.wrap (4 * (k : Int)) = ((4 * k : Nat) : Int) := by rw [IntKind.wrap_i64]; omega
      have wb (j : Nat) (hj : j ≤ 3) : IntKind.i64.wrap (((4 * k : Nat) : Int) + j) = ((4 * k + j : Nat) : Int) := by rw [IntKind.wrap_i64]; omega
      have wb1 := wb 1 (by omega)
      have wb2 := wb 2 (by omega)
      have wb3 := wb 3 (by omega)
      have lk : (k : Int) < 64 := by omega
      have l0 : ((4 * k : Nat) : Int) < len := by omega
      have l1 : ((4 * k + 1 : Nat) : Int) < len := by omega
      have l2 : ((4 * k + 2 : Nat) : Int) < len := by omega
      have l3 : ((4 * k + 3 : Nat) : Int) < len := by omega
      have hb0 := (hby'.out (4 * k) (by omega)).2
      have hb1 := (hby'.out (4 * k + 1) (by omega)).2
      have hb2 := (hby'.out (4 * k + 2) (by omega)).2
      have hb3 := (hby'.out (4 * k + 3) (by omega)).2
      have hX : wi (shaW (msgW f) k) = wi (be4 f0 f1 f2 f3) := by rw [shaW_lo _ _ hlt, msgW, hf0, hf1, hf2, hf3]
      rw [hf0] at hb0
      rw [hf1] at hb1
      rw [hf2] at hb2
      rw [hf3] at hb3
      have hv := be4_or hb0 hb1 hb2 hb3
      rw [← hX] at hv
      simp only [← IntKind.wrap_u32] at hv
      have hu0 : IntKind.u32.wrap f0 = f0 := by rw [IntKind.wrap_u32]; unfold IsB at hb0; omega
      have hu1 : IntKind.u32.wrap f1 = f1 := by rw [IntKind.wrap_u32]; unfold IsB at hb1; omega
      have hu2 : IntKind.u32.wrap f2 = f2 := by rw [IntKind.wrap_u32]; unfold IsB at hb2; omega
      have hu3 : IntKind.u32.wrap f3 = f3 := by rw [IntKind.wrap_u32]; unfold IsB at hb3; omega
      clear hX hb0 hb1 hb2 hb3 hf0 hf1 hf2 hf3
      have hC' := Lib.hid hC
      have hCs' := Lib.hid hCs
      have hCw' := Lib.hid hCw
      clear wb hCw hCs hC
      generalize ((4 * k : Nat)) = m0 at *
      generalize m0 + 1 = m1 at *
      generalize m0 + 2 = m2 at *
      generalize m0 + 3 = m3 at *
      simp only [Int.cast_ofNat_Int] at wb1 wb2 wb3
      go_wp2
      go_still_tail 35, (by kernel_rfl)
      refine gen_l (fun W => W.heap[n + 1 + 1]? = some (.cells C 123 (0, 0)) ∧ Below (n + 1 + 1) w W) ⟨hC'.out, ⟨hB.os, hB.tape, hB.output, hB.size, hB.block⟩⟩ ?_
      rintro W2 ⟨hC2, hB2⟩
      have hcc := cell_of_row W2 _ k C _ _ hC2
      have hcf := Joins.unfrozen_of_block hC2 k
      rw [Array.getElem?_eq_getElem (show k < C.size by rw [hCs'.out]; omega)] at hcc
      generalize C[k]'_ = cv at hcc
      have hC2' := Lib.hid hC2
      clear hC2 by0 by1 by2 by3 wa wb1 wb2 wb3 l0 l1 l2 l3 hv hu0 hu1 hu2 hu3
      go_wp2
      go_round
      case rel => exact ⟨k + 1, by omega, by go_num, Words64.step hC2'.out hCs'.out hCw'.out (by omega) hB2⟩
      case measure => simp [intOf]; omega
    · have e : k = 16 := by omega
      subst e
      go_wp2
      exact hQ _ _ (by kernel_rfl) ⟨C, hC, hCs, hCw, hB⟩
set_option maxHeartbeats 8000000 in
theorem blk_sched {Q : Exit → Act → World → Prop} {a : Act} (bb bo len cap n : Nat) (M : Nat → W32) (w W : World) (ha : a = BlkC bb bo len cap n (fun k => a.tmps.getD k undef))
    (hM : Words64 (n + 1 + 1) (shaW M) 16 w W) (hQ : ∀ a w', a = BlkB bb bo len cap n (fun k => a.tmps.getD k undef) → Words64 (n + 1 + 1) (shaW M) 64 w w' → Q .normal a w') : blkSched.wp Tryd.prog (Exit.inBlock 2 Q) a W := by
  rw [ha]
  generalize (fun k => a.tmps.getD k undef) = u
  clear ha a
  unfold BlkC
  simp only [blkSched, blockIn, Tryd.f59, blockOf, reduceIte, Nat.reduceEqDiff]
  go_loopw [7] (fun i wr => ∃ k : Nat, 16 ≤ k ∧ k ≤ 64 ∧ i = .int .i64 k ∧ Words64 (n + 1 + 1) (shaW M) k w wr) (fun i _ => 64 - (intOf i).toNat)
  case atStart => exact ⟨16, by omega, by omega, rfl, hM⟩
  case round =>
    obtain ⟨k, h16, hk, rfl, C, hC, hCs, hCw, hB⟩ := hrel
    by_cases hlt : k < 64
    · obtain ⟨m, rfl⟩ : ∃ m, k = m + 16 := ⟨k - 16, by omega⟩
      have c0 := (cell_of_row wr _ m C _ _ hC).trans (hCw m (by omega))
      have c1 := (cell_of_row wr _ (m + 1) C _ _ hC).trans (hCw (m + 1) (by omega))
      have c9 := (cell_of_row wr _ (m + 9) C _ _ hC).trans (hCw (m + 9) (by omega))
      have c14 := (cell_of_row wr _ (m + 14) C _ _ hC).trans (hCw (m + 14) (by omega))
      have w0 : IntKind.i64.wrap (((m + 16 : Nat) : Int) - 16) = (m : Int) := by rw [IntKind.wrap_i64]; omega
      have w1 : IntKind.i64.wrap (((m + 16 : Nat) : Int) - 15) = ((m + 1 : Nat) : Int) := by rw [IntKind.wrap_i64]; omega
      have w9 : IntKind.i64.wrap (((m + 16 : Nat) : Int) - 7) = ((m + 9 : Nat) : Int) := by rw [IntKind.wrap_i64]; omega
      have w14 : IntKind.i64.wrap (((m + 16 : Nat) : Int) - 2) = ((m + 14 : Nat) : Int) := by rw [IntKind.wrap_i64]; omega
      have l0 : (m : Int) < 64 := by omega
      have l1 : ((m + 1 : Nat) : Int) < 64 := by omega
      have l9 : ((m + 9 : Nat) : Int) < 64 := by omega
      have l14 : ((m + 14 : Nat) : Int) < 64 := by omega
      have l16 : ((m + 16 : Nat) : Int) < 64 := by omega
      have hhi := shaW_hi M m
      have hC' := Lib.hid hC
      have hCs' := Lib.hid hCs
      have hCw' := Lib.hid hCw
      have hhi' := Lib.hid hhi
      have hlt' := Lib.hid hlt
      clear hC hCs hCw hhi hM
      generalize hm16 : m + 16 = m16 at *
      generalize m + 1 = m1 at *
      generalize m + 9 = m9 at *
      generalize m + 14 = m14 at *
      have ex := wi_xor
      have ea := wi_and
      have eo := wi_or
      have ep := wi_add
      have es3 := wi_shr3
      have es10 := wi_shr10
      go_wp2
      refine wp_region_still_tail 29 (by kernel_rfl) (by kernel_rfl) ?_
      simp only [List.take_succ_cons, List.take_zero, List.drop_succ_cons, List.drop_zero]
      repeat (first
        | still_step
        | (refine wpStill_step (fun K hK => ?_)
           go_simp
           refine ⟨_, rot_i _ _ (by omega) (by omega) _, hK _ ?_⟩
           clear hK K))
      try refine wpStill_nil ?_
      refine gen_l (fun W => W.heap[n + 1 + 1]? = some (.cells C 123 (0, 0)) ∧ Below (n + 1 + 1) w W) ⟨hC'.out, ⟨hB.os, hB.tape, hB.output, hB.size, hB.block⟩⟩ ?_
      rintro W2 ⟨hC2, hB2⟩
      have hcc := cell_of_row W2 _ m16 C _ _ hC2
      have hcf := Joins.unfrozen_of_block hC2 m16
      rw [Array.getElem?_eq_getElem (show m16 < C.size by rw [hCs'.out]; exact hlt'.out)] at hcc
      generalize C[m16]'_ = cv at hcc
      have hC2' := Lib.hid hC2
      have e64 : sg1 (shaW M m14) + shaW M m9 + sg0 (shaW M m1) + shaW M m = shaW M m16 := hhi'.out.symm
      have e65 : rotI (shaW M m14) 17 ^^^ rotI (shaW M m14) 19 ^^^ shaW M m14 >>> 10 = sg1 (shaW M m14) := rfl
      have e66 : rotI (shaW M m1) 7 ^^^ rotI (shaW M m1) 18 ^^^ shaW M m1 >>> 3 = sg0 (shaW M m1) := rfl
      rw [e65, e66, e64]
      clear hC2 c0 c1 c9 c14 w0 w1 w9 w14 l0 l1 l9 l14 ex ea eo ep es3 es10 e64 e65 e66
      go_wp2
      go_round
      case rel => exact ⟨m16 + 1, by omega, by omega, by go_num, Words64.step hC2'.out hCs'.out hCw'.out hlt'.out hB2⟩
      case measure => simp [intOf]; omega
    · have e : k = 64 := by omega
      subst e
      go_wp2
      exact hQ _ _ (by kernel_rfl) ⟨C, hC, hCs, hCw, hB⟩
end Go.Proofs.YtfnjcpopadpmbaaDoor
namespace Go.Proofs.YtfnjcpopadpmbaaDoor
open Go.RowKit BigFrame
set_option maxRecDepth 100000
set_option maxHeartbeats 8000000 in
theorem blk_rounds {Q : Exit → Act → World → Prop} {a : Act} (bb bo len cap n : Nat) (h : Hs) (M : Nat → W32) (w W : World) (hK : ∀ t, t < 64 → w.cell? ⟨2, t, none⟩ = some (.int .u32 (wi (shaKw t)))) (hn : 3 ≤ n)
    (ha : a = BlkD bb bo len cap n h (fun k => a.tmps.getD k undef))
    (hM : Words64 (n + 1 + 1) (shaW M) 64 w W) (hQ : ∀ a w', a = BlkE bb bo len cap n (h.rnds M 64) (fun k => a.tmps.getD k undef) → Words64 (n + 1 + 1) (shaW M) 64 w w' → Q .normal a w') : blkRounds.wp Tryd.prog (Exit.inBlock 4 Q) a W := by
  rw [ha]
  generalize (fun k => a.tmps.getD k undef) = u
  clear ha a
  unfold BlkD
  have hK' := Lib.hid hK
  clear hK
  simp only [blkRounds, blockIn, Tryd.f59, blockOf, reduceIte, Nat.reduceEqDiff]
  go_loopw [10, 11, 12, 13, 14, 15, 16, 17, 18] (fun x10 x11 x12 x13 x14 x15 x16 x17 i wr => ∃ (t : Nat) (s : Hs), t ≤ 64 ∧ i = .int .i64 t ∧ s = h.rnds M t ∧ x10 = .int .u32 (wi s.a) ∧ x11 = .int .u32 (wi s.b) ∧ x12 = .int .u32 (wi s.c) ∧ x13 = .int .u32 (wi s.d) ∧ x14 = .int .u32 (wi s.e) ∧ x15 = .int .u32 (wi s.f) ∧ x16 = .int .u32 (wi s.g) ∧ x17 = .int .u32 (wi s.l) ∧ Words64 (n + 1 + 1) (shaW M) 64 w wr) (fun _ _ _ _ _ _ _ _ i _ => 64 - (intOf i).toNat)
  case atStart => exact ⟨0, h, by omega, rfl, rfl, rfl, rfl, rfl, rfl, rfl, rfl, rfl, rfl, hM⟩
  case round =>
    obtain ⟨t, s, ht, rfl, hs, rfl, rfl, rfl, rfl, rfl, rfl, rfl, rfl, C, hC, hCs, hCw, hB⟩ := hrel
    have hs' := Lib.hid hs
    clear hs hM
    by_cases hlt : t < 64
    · have c0 := (cell_of_row wr _ t C _ _ hC).trans (hCw t hlt)
      have ck := (hB.cell (p := ⟨2, t, none⟩) (by simp only; omega)).trans (hK'.out t hlt)
      have lt : (t : Int) < 64 := by omega
      have hC' := Lib.hid hC
      have hCs' := Lib.hid hCs
      have hCw' := Lib.hid hCw
      clear hC hCs hCw
      obtain ⟨sa, sb, sc, sd, se, sf, sg, sl⟩ := s
      dsimp only
      have ex := wi_xor
      have ea := wi_and
      have eo := wi_or
      have ep := wi_add
      have en (x : W32) : bits .xor .u32 (if IntKind.u32.signed = true then -1 else IntKind.u32.max) (wi x) = wi (~~~x) := wi_not x
      go_wp2
      go_big_quiet (exact Calls.quiet_of_same (rot_i _ _ (by omega) (by omega) _))
      go_wp2_with ((with_reducible refine (rot_i _ _ (by omega) (by omega) _).mono ?_); rintro e w' ⟨rfl, rfl⟩)
      refine ⟨⟨t + 1, Hs.rnd ⟨sa, sb, sc, sd, se, sf, sg, sl⟩ (shaKw t) (shaW M t), by omega, by go_num, ?_, rfl, rfl, rfl, rfl, rfl, rfl, rfl, rfl, C, hC'.out, hCs'.out, hCw'.out, ⟨hB.os, hB.tape, hB.output, hB.size, hB.block⟩⟩, by simp [intOf]; omega⟩
      show _ = (h.rnds M t).rnd _ _
      rw [← hs'.out]
    · have e : t = 64 := by omega
      subst e
      go_wp2
      refine hQ _ _ ?_ ⟨C, hC, hCs, hCw, hB⟩
      rw [← hs'.out]
      kernel_rfl
theorem row_8w : rowB Tryd.prog 100 8 = true := by kernel_rfl
theorem Words64.drewN {n : Nat} {M : Nat → W32} {k : Nat} {w wr : World} (h : Words64 n M k w wr) (m : Nat) : Words64 n M k w (wr.drewN m) := by
  obtain ⟨C, h1, h2, h3, h4⟩ := h
  exact ⟨C, h1, h2, h3, ⟨h4.os, h4.tape, h4.output, h4.size, h4.block⟩⟩
set_option maxHeartbeats 8000000 in
theorem block_any (bb bo len cap : Nat) (f : Nat → Int) (h : Hs) (w : World) (hl : 64 ≤ len) (hl2 : len ≤ 9223372036854775807) (hT : Tabs w)
    (hby : ∀ j, j < 64 → w.cell? ⟨bb, bo + j, none⟩ = some (.int .u8 (f j)) ∧ IsB (f j)) (hbb : bb < w.heap.size) :
    Calls Tryd.prog 59 #[.agg h.cells.toArray, .slice (some ⟨bb, bo, none⟩) len cap] w fun e w' => e = .returned (.agg (h.mix (msgW f)).cells.toArray) ∧ Below w.heap.size w w' := by
  have hT3 := hT.size
  have hmix : h.mix (msgW f) = h.add (h.rnds (msgW f) 64) := rfl
  obtain ⟨r, hr⟩ : ∃ r, r = h.rnds (msgW f) 64 := ⟨_, rfl⟩
  rw [hmix, ← hr]
  have hr' := Lib.hid hr
  clear hmix hr
  obtain ⟨w2, hw2⟩ : ∃ w2, w2 = (w.alloc (.cells h.cells.toArray 100)).alloc (.cells (List.replicate 8 (Value.int .u32 0)).toArray 100) := ⟨_, rfl⟩
  have hb2 : Below w.heap.size w w2 := by rw [hw2]; exact ((Below.refl _ _).alloc (Nat.le_refl _) _).alloc (by simp) _
  have hs2 : w2.heap.size = w.heap.size + 1 + 1 := by rw [hw2]; simp
  have hA2 : w2.heap[w.heap.size]? = some (.cells h.cells.toArray 100 (0, 0)) := by rw [hw2]; exact heap_past _ _ _ _ (heap_new _ _ _ _ rfl)
  have hR2 : w2.heap[w.heap.size + 1]? = some (.cells (List.replicate 8 (Value.int .u32 0)).toArray 100 (0, 0)) := by rw [hw2]; exact heap_new _ _ _ _ (by simp)
  have hby2 : ∀ j, j < 64 → w2.cell? ⟨bb, bo + j, none⟩ = some (.int .u8 (f j)) ∧ IsB (f j) := fun j hj => ⟨(hb2.cell (by exact hbb)).trans (hby j hj).1, (hby j hj).2⟩
  have hT2 := Lib.hid (hT.below hT3 hb2)
  have hby2' := Lib.hid hby2
  have hA2' := Lib.hid hA2
  have hR2' := Lib.hid hR2
  clear hby hby2 hT hA2 hR2
  go_enter Tryd.func59, Tryd.ntmps59
  go_wp2
  refine blk_head bb bo len cap w.heap.size f w2 _ hs2 hl hl2 hby2'.out (by omega) (by kernel_rfl) ⟨_, heap_new _ _ _ _ (by simp), rfl, fun j hj => absurd hj (by omega), by rw [← hs2, hw2]; exact (Below.refl _ _).alloc (Nat.le_refl _) _⟩ ?_
  intro a w3 ha hM3
  rw [ha]
  generalize (fun k => a.tmps.getD k undef) = u
  clear ha a
  unfold BlkB
  go_wp2
  refine blk_sched bb bo len cap w.heap.size (msgW f) w2 _ (by kernel_rfl) hM3 ?_
  clear hM3 u w3
  intro a w4 ha hM4
  rw [ha]
  generalize (fun k => a.tmps.getD k undef) = u
  clear ha a
  unfold BlkB
  obtain ⟨C4, hC4, hCs4, hCw4, hB4⟩ := hM4
  have hM4 := Lib.hid (⟨C4, hC4, hCs4, hCw4, hB4⟩ : Words64 (w.heap.size + 1 + 1) (shaW (msgW f)) 64 w2 w4)
  have hcell (j : Nat) (hj : j < 8) : w4.cell? ⟨w.heap.size, j, none⟩ = some (.int .u32 (wi (h.at j))) := (hB4.cell (by simp only; omega)).trans ((cell_of_row w2 w.heap.size j _ _ _ hA2'.out).trans (Hs.cells_get _ _ hj))
  have q0 : w4.cell? ⟨w.heap.size, 0, none⟩ = some (.int .u32 (wi h.a)) := hcell 0 (by omega)
  have q1 : w4.cell? ⟨w.heap.size, 1, none⟩ = some (.int .u32 (wi h.b)) := hcell 1 (by omega)
  have q2 : w4.cell? ⟨w.heap.size, 2, none⟩ = some (.int .u32 (wi h.c)) := hcell 2 (by omega)
  have q3 : w4.cell? ⟨w.heap.size, 3, none⟩ = some (.int .u32 (wi h.d)) := hcell 3 (by omega)
  have q4 : w4.cell? ⟨w.heap.size, 4, none⟩ = some (.int .u32 (wi h.e)) := hcell 4 (by omega)
  have q5 : w4.cell? ⟨w.heap.size, 5, none⟩ = some (.int .u32 (wi h.f)) := hcell 5 (by omega)
  have q6 : w4.cell? ⟨w.heap.size, 6, none⟩ = some (.int .u32 (wi h.g)) := hcell 6 (by omega)
  have q7 : w4.cell? ⟨w.heap.size, 7, none⟩ = some (.int .u32 (wi h.l)) := hcell 7 (by omega)
  clear hcell hC4 hCs4 hCw4
  go_wp2
  go_big_quiet (fail)
  go_wp2
  refine blk_rounds bb bo len cap w.heap.size h (msgW f) w2 _ hT2.out.consts hT3 (by kernel_rfl) (Words64.drewN hM4.out _) ?_
  clear q0 q1 q2 q3 q4 q5 q6 q7 hB4 hM4 u w4
  intro a w5 ha ⟨C5, hC5, hCs5, hCw5, hB5⟩
  rw [← hr'.out] at ha
  rw [ha]
  generalize (fun k => a.tmps.getD k undef) = u
  clear ha a
  unfold BlkE
  have hcell (j : Nat) (hj : j < 8) : w5.cell? ⟨w.heap.size, j, none⟩ = some (.int .u32 (wi (h.at j))) := (hB5.cell (by simp only; omega)).trans ((cell_of_row w2 w.heap.size j _ _ _ hA2'.out).trans (Hs.cells_get _ _ hj))
  have q0 : w5.cell? ⟨w.heap.size, 0, none⟩ = some (.int .u32 (wi h.a)) := hcell 0 (by omega)
  have q1 : w5.cell? ⟨w.heap.size, 1, none⟩ = some (.int .u32 (wi h.b)) := hcell 1 (by omega)
  have q2 : w5.cell? ⟨w.heap.size, 2, none⟩ = some (.int .u32 (wi h.c)) := hcell 2 (by omega)
  have q3 : w5.cell? ⟨w.heap.size, 3, none⟩ = some (.int .u32 (wi h.d)) := hcell 3 (by omega)
  have q4 : w5.cell? ⟨w.heap.size, 4, none⟩ = some (.int .u32 (wi h.e)) := hcell 4 (by omega)
  have q5 : w5.cell? ⟨w.heap.size, 5, none⟩ = some (.int .u32 (wi h.f)) := hcell 5 (by omega)
  have q6 : w5.cell? ⟨w.heap.size, 6, none⟩ = some (.int .u32 (wi h.g)) := hcell 6 (by omega)
  have q7 : w5.cell? ⟨w.heap.size, 7, none⟩ = some (.int .u32 (wi h.l)) := hcell 7 (by omega)
  have hR5 := Lib.hid ((hB5.block (w.heap.size + 1) (by omega)).trans hR2'.out)
  have hB5' := Lib.hid (hb2.trans (hB5.mono (by omega)))
  clear hcell hC5 hCs5 hCw5 hB5
  have ep := wi_add
  go_wp2_with (
    ((with_reducible refine at_store 100 ?_); go_loud (refine wpList_store_row_gen 100 (.tmp 4) (.tmp 212) rfl rfl (w.heap.size + 1) (by kernel_rfl) (h.add r).cells.toArray (by kernel_rfl) (Hs.cells_one _) (row_size row_8w) _ 100 hR5.out rfl (by omega) hB5'.out (fun W9 hW9 hBW _ => ?_))))
  exact ret_cell rfl (w.heap.size + 1) 0 (h.add r).cells _ (by kernel_rfl) hW9 Tryd.underlying100 rfl (row_size row_8w) rfl ⟨rfl, hBW⟩
end Go.Proofs.YtfnjcpopadpmbaaDoor
namespace Go.Proofs.YtfnjcpopadpmbaaDoor
open Go.RowKit BigFrame
set_option maxRecDepth 100000
/-- v is a slice of the call's own (blocks from base on) that holds the bytes l. -/
def OwnB (base : Nat) (v : Value) (l : List Int) (w : World) : Prop := w.ownsRow base 5 1 v l.length (l.map (Value.int .u8))
theorem OwnB.later {base : Nat} {v : Value} {l : List Int} {w w' : World} (h : OwnB base v l w) (hb : Below w.heap.size w w') : OwnB base v l w' := by
  refine ⟨h.1, ?_⟩
  rcases h.2 with hn | ⟨g, cap, cur, h1, h2, h3, h4⟩
  · exact Or.inl hn
  · exact Or.inr ⟨g, cap, cur, h1, h2, (hb.block g (by
      by_cases c : g < w.heap.size
      · exact c
      · simp [Array.getElem?_eq_none (Nat.le_of_not_lt c)] at h3)).trans h3, h4⟩
theorem OwnB.row {base : Nat} {v : Value} {l : List Int} {w : World} (h : OwnB base v l w) (hl : ∀ n ∈ l, CK.ok .u8 n) : ∃ va c, v = .slice va l.length c ∧ Row w va .u8 l ∧ l.length ≤ c := by
  rcases h.2 with ⟨h1, h2⟩ | ⟨g, cap, cur, h1, h2, h3, h4, h5, h6, h7⟩
  · have hl0 : l = [] := List.eq_nil_of_length_eq_zero h2
    subst hl0
    exact ⟨none, 0, by simpa using h1, ⟨fun i hi => absurd hi (by simp), hl⟩, by simp⟩
  · refine ⟨some ⟨g, 0, none⟩, cap, h1, ⟨fun i hi => ⟨g, 0, rfl, ?_⟩, hl⟩, h4⟩
    rw [cell_of_row w g (0 + i) cur _ _ h3, Nat.zero_add]
    have e : (cur.toList.take (l.length * 1))[i]? = some (.int .u8 (l.getD i 0)) := by
      rw [h7]
      simp [List.getD, hi]
    rw [List.getElem?_take_of_lt (by omega)] at e
    simpa [CK.mk] using e
theorem OwnB.nil (base : Nat) (w : World) : OwnB base (.slice none 0 0) [] w := ⟨rfl, Or.inl ⟨rfl, rfl⟩⟩
theorem OwnB.new {base : Nat} {w : World} {k : Nat} (hk : base ≤ k) (l : List Int) (hl : l.length ≤ maxLen) (h : w.heap[k]? = some (.cells (l.map (Value.int .u8)).toArray 5 (0, 0))) : OwnB base (.slice (some ⟨k, 0, none⟩) l.length l.length) l w :=
  ⟨by simp, Or.inr ⟨k, l.length, _, rfl, hk, h, Nat.le_refl _, hl, by simp, by simp [List.take_of_length_le]⟩⟩
theorem info_u8 : ∃ i, Tryd.prog.info? 5 = some i ∧ i.zero = some (.int .u8 0) ∧ i.size = 1 ∧ i.bytes = 1 := by
  have h : (Tryd.prog.info? 5).map (fun i => (i.zero, i.size, i.bytes)) = some (some (.int .u8 0), 1, 1) := by kernel_rfl
  cases hq : Tryd.prog.info? 5 with
  | none => simp [hq] at h
  | some i =>
    simp only [hq, Option.map_some, Option.some.injEq, Prod.mk.injEq] at h
    exact ⟨i, rfl, h.1, h.2.1, h.2.2⟩
theorem ownBlock_ge {base : Nat} {v : Value} {l : List Int} {w : World} (h : OwnB base v l w) : ∀ k, v.ownBlock = some k → base ≤ k := by
  intro k hk
  rcases h.2 with ⟨h1, _⟩ | ⟨g, cap, cur, h1, h2, _⟩
  · rw [h1] at hk; simp [Value.ownBlock] at hk
  · rw [h1] at hk
    simp only [Value.ownBlock, Option.some.injEq] at hk
    omega
/-- append of a slice of bytes, wherever it lies, onto one of the call's own. -/
theorem wp_app {o : Oper} {a : Act} {w w0 : World} {K : Act → World → Prop} {Q : Exit → Act → World → Prop} (s x : Operand)
    (ho : o.op = .call { callee := .builtin .append, args := #[s, x], argTypes := #[39, 39] }) (base : Nat) (l m : List Int) (v : Value) (hs : a.eval s = v) (hown : OwnB base v l w) (va : Option Addr) (c : Nat) (hx : a.eval x = .slice va m.length c)
    (hm : Row w va .u8 m) (hlen : l.length + m.length ≤ 70368744177664) (hbase : base ≤ w.heap.size) (hva : va = none → c = 0) (hb : Below base w0 w)
    (h : ∀ v' W, OwnB base v' (l ++ m) W → Below base w0 W → base ≤ W.heap.size → K (a.put o.dst v') W) : o.wp Tryd.prog a w K Q := by
  obtain ⟨i, hi, hz, hsz, hby⟩ := info_u8
  cases va with
  | none =>
    have hm0 : m = [] := by
      cases m with
      | nil => rfl
      | cons y ys => obtain ⟨b, o', e, _⟩ := hm.cell 0 (by simp); cases e
    subst hm0
    rw [hva rfl] at hx
    have hrun := run_append_owned_none (P := Tryd.prog) (w := w) base 39 o.type 5 i 1 Tryd.underlying39 hi v l.length _ hown
    unfold Oper.wp
    simp [execOp, ho, resolve, invoke, builtin, hs, hx, hrun, Result.andThen]
    exact h v w (by simpa using hown) hb hbase
  | some ad =>
    refine wp_append_own (P := Tryd.prog) w s x 39 ho base 5 i (.int .u8 0) 1 1 Tryd.underlying39 hi hz hsz hby rfl (by decide) v l.length _ hs hown ad m.length c (m.map (Value.int .u8)) hx (by simp) (fun j u hu => ?_) (fun u hu => ?_) (by unfold maxLen; omega) (by omega) hbase (fun v' W h1 h2 _ => ?_)
    · have hj : j < m.length := by have := (List.getElem?_eq_some_iff.1 hu).1; simpa using this
      obtain ⟨b, o', e, hc⟩ := hm.cell j hj
      cases e
      rw [Addr.add_lit, hc]
      rw [← hu]
      simp [List.getD, hj, CK.mk]
    · obtain ⟨n, _, rfl⟩ := List.mem_map.1 hu
      rfl
    · exact h v' W (by unfold OwnB; simpa using h1) (hb.grown h2 hbase (ownBlock_ge hown)) (Nat.le_trans hbase h2.size)
theorem wpList_app {ops : Array Oper} {rest : List Oper} {o : Oper} {a : Act} {w w0 : World} {Q : Exit → Act → World → Prop} (hg : o.guard = none) (s x : Operand)
    (ho : o.op = .call { callee := .builtin .append, args := #[s, x], argTypes := #[39, 39] }) (base : Nat) (l m : List Int) (v : Value) (hs : a.eval s = v) (hown : OwnB base v l w) (va : Option Addr) (c : Nat) (hx : a.eval x = .slice va m.length c)
    (hm : Row w va .u8 m) (hlen : l.length + m.length ≤ 70368744177664) (hbase : base ≤ w.heap.size) (hva : va = none → c = 0) (hb : Below base w0 w)
    (h : ∀ v' W, OwnB base v' (l ++ m) W → Below base w0 W → base ≤ W.heap.size → wpList Tryd.prog ops Q rest (a.put o.dst v') W) : wpList Tryd.prog ops Q (o :: rest) a w :=
  wpList_plain hg fun _ hK => wp_app s x ho base l m v hs hown va c hx hm hlen hbase hva hb fun v' W h1 h2 h3 => hK _ _ (h v' W h1 h2 h3)
end Go.Proofs.YtfnjcpopadpmbaaDoor
namespace Go.Proofs.YtfnjcpopadpmbaaDoor
open Go.RowKit BigFrame
set_option maxRecDepth 100000
def zerosN (n : Nat) : Nat := (119 - n % 64) % 64
def be8 (n : Nat) : List Int := (List.range 8).map fun j => ((n / 2 ^ (8 * (7 - j)) % 256 : Nat) : Int)
def padL (l : List Int) : List Int := l ++ [128] ++ List.replicate (zerosN l.length) 0 ++ be8 (8 * l.length)
theorem zerosN_lt (n : Nat) : zerosN n < 64 ∧ (n + 1 + zerosN n) % 64 = 56 ∧ ∀ k, k < zerosN n → (n + 1 + k) % 64 ≠ 56 := by
  unfold zerosN
  refine ⟨by omega, by omega, fun k hk => by omega⟩
def lenOf : Value → Nat
  | .slice _ n _ => n
  | _ => 0
theorem OwnB.len {base : Nat} {v : Value} {l : List Int} {w : World} (h : OwnB base v l w) : ∃ va c, v = .slice va l.length c := by
  rcases h.2 with ⟨h1, h2⟩ | ⟨g, cap, cur, h1, _⟩
  · exact ⟨none, 0, by rw [h2]; exact h1⟩
  · exact ⟨_, _, h1⟩
theorem row_one (w : World) (C : Array Value) (n : Int) (b : Nat) (h : w.heap[b]? = some (.cells C 5 (0, 0))) (hC : C = #[.int .u8 n]) (hn : CK.ok .u8 n) : Row w (some ⟨b, 0, none⟩) .u8 [n] := by
  subst hC
  refine ⟨fun i hi => ⟨b, 0, rfl, ?_⟩, fun m hm => by simpa using (by simpa using hm : m = n) ▸ hn⟩
  have : i = 0 := by simpa using hi
  subst this
  rw [cell_of_row w b _ _ _ _ h]
  rfl
set_option maxHeartbeats 4000000 in
theorem padded_any (l : List Int) (va : Option Addr) (c : Nat) (w : World) (hl : l.length ≤ 1099511627776) (hr : Row w va .u8 l) (hva : va = none → c = 0) :
    Calls Tryd.prog 58 #[.slice va l.length c] w fun e w' => ∃ v, e = .returned v ∧ OwnB w.heap.size v (padL l) w' ∧ Below w.heap.size w w' := by
  have hr' := Lib.hid hr
  have hva' := Lib.hid hva
  clear hr hva
  go_enter Tryd.func58, Tryd.ntmps58
  go_wp2_with (first
    | ((with_reducible refine at_call_builtin .append ?_); refine wpList_app rfl (.tmp 6) (.tmp 7) rfl w.heap.size [] l _ rfl (OwnB.new (Nat.le_refl _) [] (by decide) (heap_new _ _ _ _ rfl)) va c rfl (hr'.out.later ((Below.refl _ _).alloc (Nat.le_refl _) _)) (by simp; omega) (by simp) hva'.out ((Below.refl _ _).alloc (Nat.le_refl _) _) ?_
       intro v1 W1 h1 b1 z1)
    | ((with_reducible refine at_call_builtin .append ?_); go_loud (refine wpList_app rfl (.tmp 8) (.tmp 9) rfl w.heap.size _ [128] _ rfl (h1.later ((Below.refl _ _).alloc (Nat.le_refl _) _)) _ 1 rfl (row_one _ _ 128 _ (heap_new _ _ _ _ rfl) rfl ⟨by decide, by decide⟩) (by simp; omega) (by simp; omega) (fun h => by cases h) (b1.alloc z1 _) ?_)
       intro v2 W2 h2 b2 z2))

  have hz := zerosN_lt l.length
  go_loopw [3] (fun v wr => ∃ k : Nat, k ≤ zerosN l.length ∧ OwnB w.heap.size v (l ++ [128] ++ List.replicate k 0) wr ∧ Below w.heap.size w wr ∧ w.heap.size ≤ wr.heap.size) (fun v _ => l.length + 1 + zerosN l.length - lenOf v)
  case atStart => exact ⟨0, by omega, by simpa using h2, b2, z2⟩
  case round =>
    obtain ⟨k, hk, hO, hB, hS⟩ := hrel
    have hN : (l ++ [128] ++ List.replicate k 0).length = l.length + 1 + k := by simp; omega
    obtain ⟨va', c', hv⟩ := hO.len
    rw [hN] at hv
    have hO' := Lib.hid hO
    clear hO
    subst hv
    by_cases hlt : k < zerosN l.length
    · have hne := hz.2.2 k hlt
      have ht : (((l.length + 1 + k : Nat) : Int).tmod 64 != 56) = true := by
        rw [bne_iff_ne, Int.tmod_eq_emod_of_nonneg (by omega)]
        omega
      generalize hNN : l.length + 1 + k = N at *
      clear hne
      go_wp2_with (first
        | ((with_reducible refine at_call_builtin .append ?_); refine wpList_app rfl (.tmp 15) (.tmp 16) rfl w.heap.size _ [0] _ rfl (hO'.out.later ((Below.refl _ _).alloc (Nat.le_refl _) _)) _ 1 rfl (row_one _ _ 0 _ (heap_new _ _ _ _ rfl) rfl ⟨by decide, by decide⟩) (by simp; omega) (by simp; omega) (fun h => by cases h) (hB.alloc hS _) ?_
           intro v3 W3 h3 b3 z3))
      have e3 : l ++ [128] ++ List.replicate k 0 ++ [0] = l ++ [128] ++ List.replicate (k + 1) 0 := by
        rw [List.append_assoc, ← List.replicate_succ']
      rw [e3] at h3
      obtain ⟨va3, c3, hv3⟩ := h3.len
      refine ⟨⟨k + 1, by omega, h3, b3, z3⟩, ?_⟩
      rw [hv3]
      show l.length + 1 + zerosN l.length - (l ++ [128] ++ List.replicate (k + 1) 0).length < l.length + 1 + zerosN l.length - N
      simp
      omega
    · have e : k = zerosN l.length := by omega
      subst e
      have ht : (((l.length + 1 + zerosN l.length : Nat) : Int).tmod 64 != 56) = false := by
        rw [bne_eq_false_iff_eq, Int.tmod_eq_emod_of_nonneg (by omega)]
        omega
      generalize hNN : l.length + 1 + zerosN l.length = N at *
      have hn8 : IntKind.u64.wrap ((l.length : Int) * 8) = ((8 * l.length : Nat) : Int) := by rw [IntKind.wrap_u64]; omega
      have hn1 : IntKind.u64.wrap (l.length : Int) = (l.length : Int) := by rw [IntKind.wrap_u64]; omega
      go_wp2
      have hO3 := hO'.out
      have hpad : padL l = l ++ [128] ++ List.replicate (zerosN l.length) 0 ++ be8 (8 * l.length) := rfl
      have hpad' := Lib.hid hpad
      have hBB : (8 * (l.length : Int)) = ((8 * l.length : Nat) : Int) := by omega
      rw [hBB]
      clear hpad hBB hn8 hn1 ht hz hO' hr' hva' h1 b1 z1 h2 b2 z2
      generalize hL : l ++ [128] ++ List.replicate (zerosN l.length) 0 = L at *
      have hLn : L.length = N := hN
      have hN2 : N ≤ 1099511627840 := by rw [← hNN]; have := (zerosN_lt l.length).1; omega
      have hBm : 8 * l.length ≤ 8796093022208 := by omega
      generalize 8 * l.length = B at *
      clear hL hN hlt hk hNN
      generalize Value.bool (((N : Nat) : Int) % 64 != 56) = b14
      generalize Value.int .i64 (((N : Nat) : Int) % 64) = b13
      go_loopw [3, 5] (fun v i wr => ∃ k : Nat, k ≤ 8 ∧ i = .int .i64 (7 - (k : Int)) ∧ OwnB w.heap.size v (L ++ (be8 B).take k) wr ∧ Below w.heap.size w wr ∧ w.heap.size ≤ wr.heap.size) (fun _ i _ => (intOf i + 1).toNat)
      case atStart => exact ⟨0, by omega, rfl, by simpa using hO3, hB, hS⟩
      case round =>
        obtain ⟨k, hk, rfl, hO, hBr, hSr⟩ := hrel
        clear hO3
        have hlen : (L ++ (be8 B).take k).length = N + k := by
          simp [hLn, be8]
          omega
        obtain ⟨va4, c4, hv4⟩ := hO.len
        rw [hlen] at hv4
        have hO4 := Lib.hid hO
        clear hO
        subst hv4
        by_cases hlt : k < 8
        · have hw1 : IntKind.i64.wrap (8 * (7 - (k : Int))) = ((8 * (7 - k) : Nat) : Int) := by rw [IntKind.wrap_i64]; omega
          have hw2 : IntKind.u64.wrap ((8 * (7 - k) : Nat) : Int) = ((8 * (7 - k) : Nat) : Int) := by rw [IntKind.wrap_u64]; omega
          have hv : IntKind.u8.wrap ((B : Int) / 2 ^ (8 * (7 - k))) = ((B / 2 ^ (8 * (7 - k)) % 256 : Nat) : Int) := by
            rw [IntKind.wrap_u8]
            push_cast
            rfl
          have hbv : CK.ok .u8 ((B / 2 ^ (8 * (7 - k)) % 256 : Nat) : Int) := ⟨by omega, by omega⟩
          have hnext : (be8 B).take (k + 1) = (be8 B).take k ++ [((B / 2 ^ (8 * (7 - k)) % 256 : Nat) : Int)] := by
            have hbl : k < (be8 B).length := by simpa [be8] using hlt
            rw [List.take_succ_eq_append_getElem hbl]
            simp [be8]
          have hnext' := Lib.hid hnext
          have hbv' := Lib.hid hbv
          have hsh : ((8 * (7 - k) : Nat) : Int) < 64 := by omega
          have hJ : 0 ≤ 7 - (k : Int) := by omega
          have hJ7 : 7 - (k : Int) ≤ 7 := by omega
          clear hnext hbv
          generalize B / 2 ^ (8 * (7 - k)) % 256 = bv at *
          generalize hJe : 7 - (k : Int) = J at *
          generalize 8 * (7 - k) = sh at *
          go_wp2_with (first
            | ((with_reducible refine at_call_builtin .append ?_); refine wpList_app rfl (.tmp 26) (.tmp 33) rfl w.heap.size _ [(bv : Int)] _ rfl (hO4.out.later ((Below.refl _ _).alloc (Nat.le_refl _) _)) _ 1 rfl (row_one _ _ bv _ (heap_new _ _ _ _ rfl) (by rfl) hbv'.out) (by rw [hlen]; simp; omega) (by simp; omega) (fun h => by cases h) (hBr.alloc hSr _) ?_
               intro v3 W3 h3 b3 z3))
          rw [List.append_assoc, ← hnext'.out] at h3
          refine ⟨⟨k + 1, by omega, by rw [← hJe]; congr 1; omega, h3, b3, z3⟩, ?_⟩
          simp [intOf]
          omega
        · have e : k = 8 := by omega
          subst e
          have hO5 := hO4.out
          rw [show (be8 B).take 8 = be8 B from List.take_of_length_le (by simp [be8]), ← hpad'.out] at hO5
          have hO6 := Lib.hid hO5
          clear hO5
          go_wp2
          go_ret
          exact ⟨_, rfl, hO6.out, hBr⟩
end Go.Proofs.YtfnjcpopadpmbaaDoor
