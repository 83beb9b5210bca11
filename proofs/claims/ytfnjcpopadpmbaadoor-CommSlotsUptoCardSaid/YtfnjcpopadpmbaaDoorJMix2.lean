/- mix of the program: the words of a block. -/
/- mix of the program: the words at the end. -/
/- mix of the program: the rounds. -/
import Derived.Test.YtfnjcpopadpmbaaDoorJG
import Derived.StillTailTactics
set_option linter.unusedVariables false
set_option linter.unusedSimpArgs false
set_option linter.unnecessarySimpa false
namespace Go.Proofs.YtfnjcpopadpmbaaDoor
open Go.RowKit BigFrame
set_option maxRecDepth 100000
/-- Four bytes as a word, the first on top. -/
def be4 (a b c d : Int) : W32 := BitVec.ofInt 32 (a * 16777216 + b * 65536 + c * 256 + d)
def IsB (n : Int) : Prop := 0 ≤ n ∧ n ≤ 255
theorem be4_i {a b c d : Int} (ha : IsB a) (hb : IsB b) (hc : IsB c) (hd : IsB d) : wi (be4 a b c d) = a * 16777216 + b * 65536 + c * 256 + d := by
  unfold IsB at *
  unfold wi be4
  rw [BitVec.toNat_ofInt]
  omega
theorem be4_or {a b c d : Int} (ha : IsB a) (hb : IsB b) (hc : IsB c) (hd : IsB d) :
    bits .or .u32 (bits .or .u32 (bits .or .u32 (a * 16777216 % 4294967296) (b * 65536 % 4294967296)) (c * 256 % 4294967296)) d = wi (be4 a b c d) := by
  rw [be4_i ha hb hc hd]
  unfold IsB at *
  rw [Int.emod_eq_of_lt (by omega) (by omega), Int.emod_eq_of_lt (by omega) (by omega), Int.emod_eq_of_lt (by omega) (by omega)]
  have j := fun (i : Nat) (x y : Int) => bits_join .u32 32 (by decide) (fun n h0 h1 => show IntKind.u32.wrap n = n by rw [IntKind.wrap_u32]; omega) i x y
  rw [j 24 (a * 16777216) (b * 65536) (by omega) (by omega) (by omega) (by omega) (by omega) (by omega)]
  rw [j 16 _ (c * 256) (by omega) (by omega) (by omega) (by omega) (by omega) (by omega)]
  rw [j 8 _ d (by omega) (by omega) (by omega) (by omega) (by omega) (by omega)]
/-- The words of a block of bytes. -/
def msgW (f : Nat → Int) (t : Nat) : W32 := be4 (f (4 * t)) (f (4 * t + 1)) (f (4 * t + 2)) (f (4 * t + 3))
theorem and15 (t : Nat) (h : t < 4294967296) : bits .and .i64 (t : Int) 15 = ((t % 16 : Nat) : Int) := by
  have hk := fun (n : Int) (h0 : 0 ≤ n) (h1 : n < 2 ^ 32) => show IntKind.i64.wrap n = n by rw [IntKind.wrap_i64]; omega
  have := bits_mask .i64 32 (by decide) hk 4 (by decide) (t : Int) (by omega) (by omega)
  have e : ((2 : Int) ^ 4 - 1) = 15 := rfl
  have e2 : ((2 : Int) ^ 4) = 16 := rfl
  rw [e, e2] at this
  rw [this]
  omega
theorem and63 (t : Nat) (h : t < 4294967296) : bits .and .i64 (t : Int) 63 = ((t % 64 : Nat) : Int) := by
  have hk := fun (n : Int) (h0 : 0 ≤ n) (h1 : n < 2 ^ 32) => show IntKind.i64.wrap n = n by rw [IntKind.wrap_i64]; omega
  have := bits_mask .i64 32 (by decide) hk 6 (by decide) (t : Int) (by omega) (by omega)
  have e : ((2 : Int) ^ 6 - 1) = 63 := rfl
  have e2 : ((2 : Int) ^ 6) = 64 := rfl
  rw [e, e2] at this
  rw [this]
  omega
/-- A block's sixteen words in the making. -/
def Words16 (n : Nat) (M : Nat → W32) (k : Nat) (w wr : World) : Prop :=
  ∃ C : Array Value, wr.heap[n]? = some (.cells C 121 (0, 0)) ∧ C.size = 16 ∧ (∀ j, j < k → C[j]? = some (.int .u32 (wi (M j)))) ∧ Below n w wr
theorem Below.drew {n : Nat} {w W : World} (h : Below n w W) : Below n w { heap := W.heap, tape := W.tape, drawn := W.drawn + 1, os := W.os, output := W.output } := ⟨h.os, h.tape, h.output, h.size, h.block⟩
theorem Words16.start (n : Nat) (M : Nat → W32) (w wr : World) (C : Array Value) (h : wr.heap[n]? = some (.cells C 121 (0, 0))) (hs : C.size = 16) (hb : Below n w wr) : Words16 n M 0 w wr := ⟨C, h, hs, fun _ hj => absurd hj (by omega), hb⟩
theorem Words16.step {n : Nat} {M : Nat → W32} {k : Nat} {w wr : World} {C : Array Value} (hC : wr.heap[n]? = some (.cells C 121 (0, 0))) (hs : C.size = 16) (hw : ∀ j, j < k → C[j]? = some (.int .u32 (wi (M j)))) (hk : k < 16) (hb : Below n w wr) :
    Words16 n M (k + 1) w (wr.setCell ⟨n, k, none⟩ (.int .u32 (wi (M k)))) := by
  refine ⟨C.setIfInBounds k (.int .u32 (wi (M k))), Joins.block_setCell hC _, by simp [hs], fun j hj => ?_, hb.setCell (by simp) _⟩
  by_cases e : j = k
  · subst e
    simp [hs, hk]
  · rw [Array.getElem?_setIfInBounds_ne (Ne.symm e)]
    exact hw j (by omega)
/-- The body of block n. -/
def blockOf (n : Nat) : Code → Option Code
  | .seq a b => match blockOf n a with | some c => some c | none => blockOf n b
  | .block m c => if m = n then some c else blockOf n c
  | .loop c => blockOf n c
  | .scope c => blockOf n c
  | _ => none
def blockIn (n : Nat) (f : Func) : Code := match f.body with | some c => (match blockOf n c with | some d => d | none => .skip) | none => .skip
noncomputable def mixHead : Code := blockIn 0 Tryd.f45
def MixF0 (hb bb bo len cap n : Nat) (u : Nat → Value) : Act := { tmps := #[.pointer (some ⟨hb, 0, none⟩), .slice (some ⟨bb, bo, none⟩) len cap, u 2, u 3, .pointer (some ⟨n, 0, none⟩), u 5, u 6, u 7, u 8, u 9, u 10, u 11, u 12, u 13, u 14, u 15, u 16, u 17, u 18, u 19, u 20, u 21, u 22, u 23, u 24, u 25, u 26, u 27, u 28, u 29, u 30, u 31, u 32, u 33, u 34, u 35, u 36, u 37, u 38, u 39, u 40, u 41, u 42, u 43, u 44, u 45, u 46, u 47, u 48, u 49, u 50, u 51, u 52, u 53, u 54, u 55, u 56, u 57, u 58, u 59, u 60, u 61, u 62, u 63, u 64, u 65, u 66, u 67, u 68, u 69, u 70, u 71, u 72, u 73, u 74, u 75, u 76, u 77, u 78, u 79, u 80, u 81, u 82, u 83, u 84, u 85, u 86, u 87, u 88, u 89, u 90, u 91, u 92, u 93, u 94, u 95, u 96, u 97, u 98, u 99, u 100, u 101, u 102, u 103, u 104, u 105, u 106, u 107, u 108, u 109, u 110, u 111, u 112, u 113, u 114, u 115, u 116, u 117, u 118, u 119, u 120, u 121, u 122, u 123, u 124, u 125, u 126, u 127, u 128, u 129, u 130, u 131, u 132, u 133, u 134, u 135, u 136, u 137, u 138, u 139, u 140, u 141, u 142, u 143, u 144, u 145, u 146, u 147, u 148, u 149, u 150, u 151, u 152, u 153, u 154, u 155, u 156, u 157, u 158, u 159, u 160, u 161, u 162, u 163, u 164, u 165, u 166, u 167, u 168, u 169, u 170, u 171, u 172, u 173, u 174, u 175, u 176, u 177, u 178, u 179, u 180, u 181, u 182, u 183, u 184, u 185, u 186, u 187, u 188, u 189, u 190, u 191, u 192, u 193, u 194, u 195, u 196, u 197, u 198, u 199, u 200, u 201, u 202, u 203, u 204, u 205, u 206, u 207, u 208, u 209, u 210, u 211, u 212, u 213, u 214, u 215, u 216], defers := [] }
def MixF1 (hb bb bo len cap n : Nat) (u : Nat → Value) : Act := { tmps := #[.pointer (some ⟨hb, 0, none⟩), .slice (some ⟨bb, bo, none⟩) len cap, u 2, u 3, .pointer (some ⟨n, 0, none⟩), u 5, u 6, u 7, u 8, u 9, u 10, u 11, u 12, u 13, u 14, u 15, u 16, u 17, u 18, u 19, u 20, u 21, .int .i64 0, u 23, u 24, u 25, u 26, u 27, u 28, u 29, u 30, u 31, u 32, u 33, u 34, u 35, u 36, u 37, u 38, u 39, u 40, u 41, u 42, u 43, u 44, u 45, u 46, u 47, u 48, u 49, u 50, u 51, u 52, u 53, u 54, u 55, u 56, u 57, u 58, u 59, u 60, u 61, u 62, u 63, u 64, u 65, u 66, u 67, u 68, u 69, u 70, u 71, u 72, u 73, u 74, u 75, u 76, u 77, u 78, u 79, u 80, u 81, u 82, u 83, u 84, u 85, u 86, u 87, u 88, u 89, u 90, u 91, u 92, u 93, u 94, u 95, u 96, u 97, u 98, u 99, u 100, u 101, u 102, u 103, u 104, u 105, u 106, u 107, u 108, u 109, u 110, u 111, u 112, u 113, u 114, u 115, u 116, u 117, u 118, u 119, u 120, u 121, u 122, u 123, u 124, u 125, u 126, u 127, u 128, u 129, u 130, u 131, u 132, u 133, u 134, u 135, u 136, u 137, u 138, u 139, u 140, u 141, u 142, u 143, u 144, u 145, u 146, u 147, u 148, u 149, u 150, u 151, u 152, u 153, u 154, u 155, u 156, u 157, u 158, u 159, u 160, u 161, u 162, u 163, u 164, u 165, u 166, u 167, u 168, u 169, u 170, u 171, u 172, u 173, u 174, u 175, u 176, u 177, u 178, u 179, u 180, u 181, u 182, u 183, u 184, u 185, u 186, u 187, u 188, u 189, u 190, u 191, u 192, u 193, u 194, u 195, u 196, u 197, u 198, u 199, u 200, u 201, u 202, u 203, u 204, u 205, u 206, u 207, u 208, u 209, u 210, u 211, u 212, u 213, u 214, u 215, u 216], defers := [] }
set_option maxHeartbeats 8000000 in
theorem mix_head {Q : Exit → Act → World → Prop} {a : Act} (hb bb bo len cap : Nat) (f : Nat → Int) (w W : World) (hl : 64 ≤ len) (hl2 : len ≤ 9223372036854775807)
    (hby : ∀ j, j < 64 → w.cell? ⟨bb, bo + j, none⟩ = some (.int .u8 (f j)) ∧ IsB (f j)) (hbb : bb < w.heap.size) (ha : a = MixF1 hb bb bo len cap w.heap.size (fun k => a.tmps.getD k undef))
    (hM : Words16 w.heap.size (msgW f) 0 w W) (hQ : ∀ a w', a = MixF0 hb bb bo len cap w.heap.size (fun k => a.tmps.getD k undef) → Words16 w.heap.size (msgW f) 16 w w' → Q .normal a w') : mixHead.wp Tryd.prog (Exit.inBlock 0 Q) a W := by
  rw [ha]
  generalize (fun k => a.tmps.getD k undef) = u
  clear ha a
  unfold MixF1
  have hby' := Lib.hid hby
  clear hby
  simp only [mixHead, blockIn, Tryd.f45, blockOf, reduceIte, Nat.reduceEqDiff]
  go_loopw [22] (fun i wr => ∃ k : Nat, k ≤ 16 ∧ i = .int .i64 k ∧ Words16 w.heap.size (msgW f) k w wr) (fun i _ => 16 - (intOf i).toNat)
  case atStart => exact ⟨0, by omega, rfl, hM⟩
  case round =>
    obtain ⟨k, hk, rfl, C, hC, hCs, hCw, hB⟩ := hrel
    by_cases hlt : k < 16
    · have by0 := (hby'.out (4 * k) (by omega)).1
      have by1 := (hby'.out (4 * k + 1) (by omega)).1
      have by2 := (hby'.out (4 * k + 2) (by omega)).1
      have by3 := (hby'.out (4 * k + 3) (by omega)).1
      rw [← hB.cell (by exact hbb)] at by0 by1 by2 by3
      generalize hf0 : f (4 * k) = f0 at by0
      generalize hf1 : f (4 * k + 1) = f1 at by1
      generalize hf2 : f (4 * k + 2) = f2 at by2
      generalize hf3 : f (4 * k + 3) = f3 at by3
      have wa : IntKind.i64.wrap (4 * (k : Int)) = ((4 * k : Nat) : Int) := by rw [IntKind.wrap_i64]; omega
      have wb (j : Nat) (hj : j ≤ 3) : IntKind.i64.wrap (((4 * k : Nat) : Int) + j) = ((4 * k + j : Nat) : Int) := by rw [IntKind.wrap_i64]; omega
      have wb1 := wb 1 (by omega)
      have wb2 := wb 2 (by omega)
      have wb3 := wb 3 (by omega)
      have l0 : ((4 * k : Nat) : Int) < len := by omega
      have l1 : ((4 * k + 1 : Nat) : Int) < len := by omega
      have l2 : ((4 * k + 2 : Nat) : Int) < len := by omega
      have l3 : ((4 * k + 3 : Nat) : Int) < len := by omega
      have hb0 := (hby'.out (4 * k) (by omega)).2
      have hb1 := (hby'.out (4 * k + 1) (by omega)).2
      have hb2 := (hby'.out (4 * k + 2) (by omega)).2
      have hb3 := (hby'.out (4 * k + 3) (by omega)).2
      have hX : wi (msgW f k) = wi (be4 f0 f1 f2 f3) := by rw [msgW, hf0, hf1, hf2, hf3]
      rw [hf0] at hb0
      rw [hf1] at hb1
      rw [hf2] at hb2
      rw [hf3] at hb3
      have hv := be4_or hb0 hb1 hb2 hb3
      rw [← hX] at hv
      simp only [← IntKind.wrap_u32] at hv
      have hu0 : IntKind.u32.wrap f0 = f0 := by rw [IntKind.wrap_u32]; unfold IsB at hb0; omega
      have hu1 : IntKind.u32.wrap f1 = f1 := by rw [IntKind.wrap_u32]; unfold IsB at hb1; omega
      have hu2 : IntKind.u32.wrap f2 = f2 := by rw [IntKind.wrap_u32]; unfold IsB at hb2; omega
      have hu3 : IntKind.u32.wrap f3 = f3 := by rw [IntKind.wrap_u32]; unfold IsB at hb3; omega
      clear hX hb0 hb1 hb2 hb3 hf0 hf1 hf2 hf3
      have hC' := Lib.hid hC
      have hCs' := Lib.hid hCs
      have hCw' := Lib.hid hCw
      clear wb hCw hCs hC
      generalize ((4 * k : Nat)) = m0 at *
      generalize m0 + 1 = m1 at *
      generalize m0 + 2 = m2 at *
      generalize m0 + 3 = m3 at *
      simp only [Int.cast_ofNat_Int] at wb1 wb2 wb3
      go_wp2
      go_still_tail 35, (by kernel_rfl)
      refine gen_l (fun W => W.heap[w.heap.size]? = some (.cells C 121 (0, 0)) ∧ Below w.heap.size w W) ⟨hC'.out, hB.drew⟩ ?_
      rintro W2 ⟨hC2, hB2⟩
      have hcc := cell_of_row W2 _ k C _ _ hC2
      have hcf := Joins.unfrozen_of_block hC2 k
      rw [Array.getElem?_eq_getElem (show k < C.size by rw [hCs'.out]; exact hlt)] at hcc
      generalize C[k]'_ = cv at hcc
      have hC2' := Lib.hid hC2
      clear hC2 by0 by1 by2 by3 wa wb1 wb2 wb3 l0 l1 l2 l3 hv hu0 hu1 hu2 hu3
      go_wp2
      go_round
      case rel => exact ⟨k + 1, by omega, by go_num, Words16.step hC2'.out hCs'.out hCw'.out hlt hB2⟩
      case measure => simp [intOf]; omega
    · have e : k = 16 := by omega
      subst e
      go_wp2
      exact hQ _ _ (by kernel_rfl) ⟨C, hC, hCs, hCw, hB⟩
end Go.Proofs.YtfnjcpopadpmbaaDoor
namespace Go.Proofs.YtfnjcpopadpmbaaDoor
open Go.RowKit BigFrame
set_option maxRecDepth 100000
theorem Apart.of_below {k : Nat} {W w : World} (h : Below W.heap.size W w) : Apart k W w := ⟨h.os, h.tape, h.output, h.size, fun b hb _ => h.block b hb⟩
theorem Apart.setCell' {k : Nat} {W w : World} {p : Addr} (h : Apart k W w) (hp : W.heap.size ≤ p.block) (v : Value) : Apart k W (w.setCell p v) :=
  ⟨h.os, h.tape, h.output, by rw [show (w.setCell p v).heap.size = w.heap.size from by simp]; exact h.size, fun b hb hk => (Below.heap_setCell w p v b (by omega)).trans (h.block b hb hk)⟩
/-- The words of block hb: the first k have become v's. -/
def MixU (hb : Nat) (H : Array Value) (tH : TypeId) (v : Nat → W32) (k : Nat) (w wr : World) : Prop :=
  ∃ H' : Array Value, wr.heap[hb]? = some (.cells H' tH (0, 0)) ∧ H'.size = H.size ∧ (∀ j : Nat, H'[j]? = if j < k then some (.int .u32 (wi (v j))) else H[j]?) ∧ Apart hb w wr
theorem MixU.start {hb : Nat} {H : Array Value} {tH : TypeId} (v : Nat → W32) {w wr : World} (h1 : wr.heap[hb]? = some (.cells H tH (0, 0))) (h2 : Apart hb w wr) : MixU hb H tH v 0 w wr := ⟨H, h1, rfl, fun j => by simp, h2⟩
theorem MixU.step {hb : Nat} {H : Array Value} {tH : TypeId} {v : Nat → W32} {k : Nat} {w W : World} {H' : Array Value} (h1 : W.heap[hb]? = some (.cells H' tH (0, 0))) (h2 : H'.size = H.size) (h3 : ∀ j : Nat, H'[j]? = if j < k then some (.int .u32 (wi (v j))) else H[j]?) (hk : k < H.size)
    (h4 : Apart hb w W) : MixU hb H tH v (k + 1) w (W.setCell ⟨hb, k, none⟩ (.int .u32 (wi (v k)))) := by
  refine ⟨_, Joins.block_setCell h1 _, by simp [h2], fun j => ?_, h4.setCell _ _⟩
  by_cases e : j = k
  · subst e
    rw [if_pos (by omega)]
    simp [h2, hk]
  · rw [Array.getElem?_setIfInBounds_ne (Ne.symm e), h3 j]
    by_cases c : j < k
    · rw [if_pos c, if_pos (by omega)]
    · rw [if_neg c, if_neg (by omega)]
theorem run_index_op {P : Program} {ρ : Operand → Value} {o : Oper} (w : World) (t e : TypeId) (x y : Operand) (n : Nat) (ho : o.op = .index t x y) (hu : P.underlying t = some (.array n e)) {d : TypeDesc} (he : P.underlying e = some d) (hd : d.isRow = false)
    (hs : (P.info? e).map (·.size) = some 1) (cs : Array Value) (hx : ρ x = .agg cs) (k : IntKind) (i : Nat) (hy : ρ y = .int k (i : Int)) (hi : i < n) (v : Value) (hv : cs[i]? = some v) : (execOp ρ o).run P w = .ok (.value v) w := by
  have h := run_index_one (P := P) w t e n hu he hd hs cs k i hi v hv
  unfold execOp
  simp only [ho, hx, hy, Sem.run_bind, h, Result.andThen, Sem.run_pure]

noncomputable def mixTail : Code := blockIn 2 Tryd.f45
def MixG (hb : Nat) (A : Array Value) (u : Nat → Value) : Act := { tmps := #[.pointer (some ⟨hb, 0, none⟩), u 1, u 2, u 3, u 4, u 5, u 6, u 7, u 8, u 9, u 10, u 11, u 12, u 13, u 14, u 15, u 16, u 17, u 18, u 19, u 20, u 21, u 22, u 23, u 24, u 25, u 26, u 27, u 28, u 29, u 30, u 31, u 32, u 33, u 34, u 35, u 36, u 37, u 38, u 39, u 40, u 41, u 42, u 43, u 44, u 45, u 46, u 47, u 48, u 49, u 50, u 51, u 52, u 53, u 54, u 55, u 56, u 57, u 58, u 59, u 60, u 61, u 62, u 63, u 64, u 65, u 66, u 67, u 68, u 69, u 70, u 71, u 72, u 73, u 74, u 75, u 76, u 77, u 78, u 79, u 80, u 81, u 82, u 83, u 84, u 85, u 86, u 87, u 88, u 89, u 90, u 91, u 92, u 93, u 94, u 95, u 96, u 97, u 98, u 99, u 100, u 101, u 102, u 103, u 104, u 105, u 106, u 107, u 108, u 109, u 110, u 111, u 112, u 113, u 114, u 115, u 116, u 117, u 118, u 119, u 120, u 121, u 122, u 123, u 124, u 125, u 126, u 127, u 128, u 129, u 130, u 131, u 132, u 133, u 134, u 135, u 136, u 137, u 138, u 139, u 140, u 141, u 142, u 143, u 144, u 145, u 146, u 147, u 148, u 149, u 150, u 151, u 152, u 153, u 154, u 155, u 156, u 157, u 158, u 159, u 160, u 161, u 162, u 163, u 164, u 165, u 166, u 167, u 168, u 169, u 170, u 171, u 172, u 173, u 174, u 175, u 176, u 177, u 178, u 179, u 180, u 181, u 182, u 183, u 184, u 185, u 186, u 187, u 188, u 189, u 190, u 191, u 192, u 193, u 194, u 195, u 196, u 197, u 198, u 199, u 200, u 201, .agg A, .int .i64 0, u 204, u 205, u 206, u 207, u 208, u 209, u 210, u 211, u 212, u 213, u 214, u 215, u 216], defers := [] }
set_option maxHeartbeats 8000000 in
theorem mix_tail {Q : Exit → Act → World → Prop} {a : Act} {A : Array Value} (hb : Nat) (H : Array Value) (tH : TypeId) (h r : Hs) (w W : World) (ha : a = MixG hb A (fun k => a.tmps.getD k undef)) (hA : A = r.cells.toArray) (hHc : ∀ j, j < 8 → H[j]? = some (.int .u32 (wi (h.at j))))
    (hM : MixU hb H tH (fun j => h.at j + r.at j) 0 w W) (hQ : ∀ a w', a.defers = [] → MixU hb H tH (fun j => h.at j + r.at j) 8 w w' → Q .normal a w') : mixTail.wp Tryd.prog (Exit.inBlock 2 Q) a W := by
  subst hA
  rw [ha]
  generalize (fun k => a.tmps.getD k undef) = u
  clear ha a
  unfold MixG
  have hHc' := Lib.hid hHc
  clear hHc
  simp only [mixTail, blockIn, Tryd.f45, blockOf, reduceIte, Nat.reduceEqDiff]
  have hcg := Lib.hid r.cells_get
  generalize r.cells.toArray = A at *
  go_loopw [203] (fun i wr => ∃ k : Nat, k ≤ 8 ∧ i = .int .i64 k ∧ MixU hb H tH (fun j => h.at j + r.at j) k w wr) (fun i _ => 8 - (intOf i).toNat)
  case atStart => exact ⟨0, by omega, rfl, hM⟩
  case round =>
    obtain ⟨k, hk, rfl, H', hH', hsz, hcs, hap⟩ := hrel
    by_cases hlt : k < 8
    · have hr : H'[k]? = some (.int .u32 (wi (h.at k))) := (hcs k).trans ((if_neg (by omega)).trans (hHc'.out k hlt))
      have hrc := (cell_of_row _ _ k H' _ _ hH').trans hr
      have hrf := Joins.unfrozen_of_block hH' k
      have hhead := Lib.hid hH'
      have hcs' := Lib.hid hcs
      have hlt' := Lib.hid hlt
      clear hH' hcs hr hM
      go_wp2_with ((with_reducible refine at_index 100 ?_); refine wpList_value (by rfl) _ (run_index_op _ _ _ _ _ 8 rfl Tryd.underlying100 Tryd.underlying96 rfl (by kernel_rfl) A (by rfl) .i64 k (by rfl) hlt'.out _ (hcg.out k hlt'.out)) ?_)
      have ep := wi_add
      have hk8 : (k : Int) < 8 := by omega
      refine wp_region_still_tail 9 (by kernel_rfl) (by kernel_rfl) ?_
      simp only [List.take_succ_cons, List.take_zero, List.drop_succ_cons, List.drop_zero]
      repeat still_step
      try refine wpStill_nil ?_
      refine gen_l (fun W2 => W2.heap[hb]? = some (.cells H' tH (0, 0)) ∧ Apart hb w W2) ⟨hhead.out, ⟨hap.os, hap.tape, hap.output, hap.size, hap.block⟩⟩ ?_
      rintro W2 ⟨hC2, hA2⟩
      have hcc := (cell_of_row W2 _ k H' _ _ hC2).trans ((hcs'.out k).trans ((if_neg (by omega)).trans (hHc'.out k hlt)))
      have hcf := Joins.unfrozen_of_block hC2 k
      have hC2' := Lib.hid hC2
      clear hC2 hrc hrf
      go_wp2
      go_round
      case rel => exact ⟨k + 1, by omega, by go_num, MixU.step hC2'.out hsz hcs'.out (by rw [← hsz] ; exact (Array.getElem?_eq_some_iff.1 ((hcs'.out k).trans ((if_neg (by omega)).trans (hHc'.out k hlt)))).1) hA2⟩
      case measure => simp [intOf]; omega
    · have e : k = 8 := by omega
      subst e
      go_wp2
      exact hQ _ _ rfl ⟨H', hH', hsz, hcs, hap⟩
end Go.Proofs.YtfnjcpopadpmbaaDoor
namespace Go.Proofs.YtfnjcpopadpmbaaDoor
open Go.RowKit BigFrame
set_option maxRecDepth 100000
theorem wp_scope_jumps2 {P : Program} {a : Act} {w : World} {Q : Exit → Act → World → Prop} {c R : Code} (l : Nat) (J : Act → World → Prop) (μ : Act → World → Nat) (hf : findLabel c l = some (.seq .skip R))
    (pass : ∀ a w, J a w → R.wp P (Exit.jump l (fun a' w' => J a' w' ∧ μ a' w' < μ a w) Q) a w)
    (first : (∀ a w, J a w → R.wp P (Exit.jump l J Q) a w) → c.wp P (Exit.jump l J Q) a w) : (Code.scope c).wp P Q a w :=
  wp_scope_jumps l J μ hf (first fun a w h => Code.wp_mono (fun e a' w' h' => by
    cases e <;> first | exact h' | exact ⟨h'.1, h'.2.1⟩) (pass a w h)) fun a w h => wp_seq (wp_skip (pass a w h))
def MixF (hb bb bo len cap n : Nat) (s : Hs) (t : Nat) (u : Nat → Value) : Act := { tmps := #[.pointer (some ⟨hb, 0, none⟩), .slice (some ⟨bb, bo, none⟩) len cap, u 2, u 3, .pointer (some ⟨n, 0, none⟩), u 5, .int .u32 (wi s.a), .int .u32 (wi s.b), .int .u32 (wi s.c), .int .u32 (wi s.d), .int .u32 (wi s.e), .int .u32 (wi s.f), .int .u32 (wi s.g), .int .u32 (wi s.l), .int .i64 (t : Int), u 15, u 16, u 17, u 18, u 19, u 20, u 21, u 22, u 23, u 24, u 25, u 26, u 27, u 28, u 29, u 30, u 31, u 32, u 33, u 34, u 35, u 36, u 37, u 38, u 39, u 40, u 41, u 42, u 43, u 44, u 45, u 46, u 47, u 48, u 49, u 50, u 51, u 52, u 53, u 54, u 55, u 56, u 57, u 58, u 59, u 60, u 61, u 62, u 63, u 64, u 65, u 66, u 67, u 68, u 69, u 70, u 71, u 72, u 73, u 74, u 75, u 76, u 77, u 78, u 79, u 80, u 81, u 82, u 83, u 84, u 85, u 86, u 87, u 88, u 89, u 90, u 91, u 92, u 93, u 94, u 95, u 96, u 97, u 98, u 99, u 100, u 101, u 102, u 103, u 104, u 105, u 106, u 107, u 108, u 109, u 110, u 111, u 112, u 113, u 114, u 115, u 116, u 117, u 118, u 119, u 120, u 121, u 122, u 123, u 124, u 125, u 126, u 127, u 128, u 129, u 130, u 131, u 132, u 133, u 134, u 135, u 136, u 137, u 138, u 139, u 140, u 141, u 142, u 143, u 144, u 145, u 146, u 147, u 148, u 149, u 150, u 151, u 152, u 153, u 154, u 155, u 156, u 157, u 158, u 159, u 160, u 161, u 162, u 163, u 164, u 165, u 166, u 167, u 168, u 169, u 170, u 171, u 172, u 173, u 174, u 175, u 176, u 177, u 178, u 179, u 180, u 181, u 182, u 183, u 184, u 185, u 186, u 187, u 188, u 189, u 190, u 191, u 192, u 193, u 194, u 195, u 196, u 197, u 198, u 199, u 200, u 201, u 202, u 203, u 204, u 205, u 206, u 207, u 208, u 209, u 210, u 211, u 212, u 213, u 214, u 215, u 216], defers := [] }
/-- What holds at the label: t rounds are done. -/
def MixJ (hb bb bo len cap n : Nat) (h : Hs) (M : Nat → W32) (w : World) (a : Act) (wr : World) : Prop :=
  ∃ (t : Nat) (s : Hs) (C : Array Value) (u : Nat → Value), a = MixF hb bb bo len cap n s t u ∧ t ≤ 63 ∧ s = h.rnds M t ∧
    wr.heap[n]? = some (.cells C 121 (0, 0)) ∧ C.size = 16 ∧ (∀ k, k < 16 → C[(t + k) % 16]? = some (.int .u32 (wi (shaW M (t + k))))) ∧ Below n w wr
theorem turn_i (x : W32) (k : Int) (h1 : 1 ≤ k) (h2 : k ≤ 31) (w : World) :
    Calls Tryd.prog 62 #[.int .u32 (wi x), .int .i64 k] w fun e w' => e = .returned (.int .u32 (wi (rotI x k))) ∧ w' = w := by
  obtain ⟨m, rfl⟩ := Int.eq_ofNat_of_zero_le (show 0 ≤ k by omega)
  exact turn_any x m (by omega) w
theorem MixU.same {hb : Nat} {H : Array Value} {tH : TypeId} {v v' : Nat → W32} {k : Nat} {w W : World} (h : MixU hb H tH v k w W) (e : ∀ j, v' j = v j) : MixU hb H tH v' k w W := by
  have : v' = v := funext e
  rw [this]
  exact h
theorem MixJ.of {hb bb bo len cap n : Nat} {h : Hs} {M : Nat → W32} {w : World} {a : Act} {wr : World} (t : Nat) (s : Hs) (C : Array Value) (hf : a = MixF hb bb bo len cap n s t (fun k => a.tmps.getD k undef)) (ht : t ≤ 63) (hs : s = h.rnds M t)
    (hC : wr.heap[n]? = some (.cells C 121 (0, 0))) (hz : C.size = 16) (hw : ∀ k, k < 16 → C[(t + k) % 16]? = some (.int .u32 (wi (shaW M (t + k))))) (hB : Below n w wr) : MixJ hb bb bo len cap n h M w a wr :=
  ⟨t, s, C, _, hf, ht, hs, hC, hz, hw, hB⟩
theorem mix_cells {M : Nat → W32} {t j : Nat} {C : Array Value} (hj : t % 16 = j) (hz : C.size = 16) (hw : ∀ k, k < 16 → C[(t + k) % 16]? = some (.int .u32 (wi (shaW M (t + k))))) (k : Nat) (hk : k < 16) :
    (C.setIfInBounds j (.int .u32 (wi (shaW M (t + 16)))))[(t + 1 + k) % 16]? = some (.int .u32 (wi (shaW M (t + 1 + k)))) := by
  subst hj
  by_cases e : k = 15
  · subst e
    rw [show t + 1 + 15 = t + 16 from by omega, Nat.add_mod_right]
    simp [hz, Nat.mod_lt]
  · rw [Array.getElem?_setIfInBounds_ne (by omega), show t + 1 + k = t + (k + 1) from by omega]
    exact hw (k + 1) (by omega)
set_option maxHeartbeats 8000000 in
theorem mix_any (hb bb bo len cap : Nat) (f : Nat → Int) (h : Hs) (H : Array Value) (tH : TypeId) (w : World) (hl : 64 ≤ len) (hl2 : len ≤ 9223372036854775807)
    (hby : ∀ j, j < 64 → w.cell? ⟨bb, bo + j, none⟩ = some (.int .u8 (f j)) ∧ IsB (f j)) (hbb : bb < w.heap.size)
    (hK : ∀ t, t < 64 → w.cell? ⟨1, t, none⟩ = some (.int .u32 (wi (shaKw t))))
    (hH : w.heap[hb]? = some (.cells H tH (0, 0))) (hHc : ∀ j, j < 8 → H[j]? = some (.int .u32 (wi (h.at j)))) :
    Calls Tryd.prog 45 #[.pointer (some ⟨hb, 0, none⟩), .slice (some ⟨bb, bo, none⟩) len cap] w fun e w' => e = .returned (.tuple #[]) ∧ MixU hb H tH (h.mix (msgW f)).at 8 w w' := by
  have hHc' := Lib.hid hHc
  have hhb : hb < w.heap.size := block_lt_of_cell ((cell_of_row w hb 0 H _ _ hH).trans (hHc 0 (by omega)))
  have hby' := Lib.hid hby
  have hK' := Lib.hid hK
  have hKb : 1 < w.heap.size := block_lt_of_cell (hK 0 (by omega))
  clear hby hK hHc
  go_enter Tryd.func45, Tryd.ntmps45
  go_wp2
  refine wp_scope_jumps2 0 (MixJ hb bb bo len cap w.heap.size h (msgW f) w) (fun a' _ => 64 - (intOf (a'.tmps.getD 14 undef)).toNat) rfl ?_ ?_
  · rintro a wr ⟨t, s, C, u, rfl, ht, hs, hC, hCs, hCw, hB⟩
    have c0 := (cell_of_row wr _ (t % 16) C _ _ hC).trans (by simpa using hCw 0 (by omega))
    have c1 := (cell_of_row wr _ ((t + 1) % 16) C _ _ hC).trans (hCw 1 (by omega))
    have c9 := (cell_of_row wr _ ((t + 9) % 16) C _ _ hC).trans (hCw 9 (by omega))
    have c14 := (cell_of_row wr _ ((t + 14) % 16) C _ _ hC).trans (hCw 14 (by omega))
    have ck := (hB.cell (p := ⟨1, t, none⟩) hKb).trans (hK'.out t (by omega))
    have a0 := and15 t (by omega)
    have a1 := and15 (t + 1) (by omega)
    have a9 := and15 (t + 9) (by omega)
    have a14 := and15 (t + 14) (by omega)
    have a63 := and63 t (by omega)
    rw [Nat.mod_eq_of_lt (show t < 64 by omega)] at a63
    have i0 : t % 16 < 16 := Nat.mod_lt _ (by omega)
    have i1 : (t + 1) % 16 < 16 := Nat.mod_lt _ (by omega)
    have i9 : (t + 9) % 16 < 16 := Nat.mod_lt _ (by omega)
    have i14 : (t + 14) % 16 < 16 := Nat.mod_lt _ (by omega)
    have w1 : IntKind.i64.wrap ((t : Int) + 1) = ((t + 1 : Nat) : Int) := by rw [IntKind.wrap_i64]; omega
    have w9 : IntKind.i64.wrap ((t : Int) + 9) = ((t + 9 : Nat) : Int) := by rw [IntKind.wrap_i64]; omega
    have w14 : IntKind.i64.wrap ((t : Int) + 14) = ((t + 14 : Nat) : Int) := by rw [IntKind.wrap_i64]; omega
    have hj0 : ((t % 16 : Nat) : Int) < 16 := by omega
    have hj1 : (((t + 1) % 16 : Nat) : Int) < 16 := by omega
    have hj9 : (((t + 9) % 16 : Nat) : Int) < 16 := by omega
    have hj14 : (((t + 14) % 16 : Nat) : Int) < 16 := by omega
    have htt : (t : Int) < 64 := by omega
    clear i0 i1 i9 i14
    generalize gj0 : t % 16 = j0 at *
    generalize (t + 1) % 16 = j1 at *
    generalize (t + 9) % 16 = j9 at *
    generalize (t + 14) % 16 = j14 at *
    generalize hT1 : ((t + 1 : Nat) : Int) = T1 at w1 a1
    generalize ((t + 9 : Nat) : Int) = T9 at w9 a9
    generalize ((t + 14 : Nat) : Int) = T14 at w14 a14
    obtain ⟨sa, sb, sc, sd, se, sf, sg, sl⟩ := s
    unfold MixF
    dsimp only
    have hs' := Lib.hid hs
    have hC' := Lib.hid hC
    have hCs' := Lib.hid hCs
    have hCw' := Lib.hid hCw
    clear hs hC hCs hCw
    have ex := wi_xor
    have ea := wi_and
    have eo := wi_or
    have ep := wi_add
    have es3 := wi_shr3
    have es10 := wi_shr10
    go_wp2
    refine wp_region_quiet_lit (by kernel_rfl) (by kernel_rfl) ?_
    repeat (go_big_quiet_step (exact Calls.quiet_of_same (turn_i _ _ (by omega) (by omega) _)))
    refine wpQuiet_nil ?_
    intro _ hw'
    obtain ⟨nq, hw''⟩ := hw'
    subst hw''
    go_wp2_with ((with_reducible refine (turn_i _ _ (by omega) (by omega) _).mono ?_); rintro e w' ⟨rfl, rfl⟩)
    go_big_quiet (fail)
    go_wp2
    refine gen_world (fun W => W.heap = wr.heap ∧ Below w.heap.size w W) ⟨by first | rfl | simp, ⟨hB.os, hB.tape, hB.output, hB.size, hB.block⟩⟩ ?_
    rintro W ⟨hWh, hBW⟩
    have c9' := (World.cell?_of_block (w := wr) (w' := W) (a := ⟨w.heap.size, j9, none⟩) (by rw [hWh])).trans c9
    have hWC := Lib.hid ((congrArg (fun hp => hp[w.heap.size]?) hWh).trans hC'.out)
    clear c0 c1 c9 c14 ck hWh
    refine wp_region_still_tail 28 (by kernel_rfl) (by kernel_rfl) ?_
    simp only [List.take_succ_cons, List.take_zero, List.drop_succ_cons, List.drop_zero]
    repeat (first
      | still_step
      | (refine wpStill_step (fun K hK => ?_)
         go_simp
         refine ⟨_, turn_i _ _ (by omega) (by omega) _, hK _ ?_⟩
         clear hK K))
    try refine wpStill_nil ?_
    refine gen_l (fun W2 => W2.heap[w.heap.size]? = some (.cells C 121 (0, 0)) ∧ Below w.heap.size w W2) ⟨hWC.out, ⟨hBW.os, hBW.tape, hBW.output, hBW.size, hBW.block⟩⟩ ?_
    rintro W2 ⟨hC2, hB2⟩
    have hj0' : j0 < C.size := by rw [hCs'.out]; omega
    have hcc := cell_of_row W2 _ j0 C _ _ hC2
    have hcf := Joins.unfrozen_of_block hC2 j0
    rw [Array.getElem?_eq_getElem hj0'] at hcc
    generalize C[j0]'_ = cv at hcc
    have hC2' := Lib.hid hC2
    rw [shaW_prog]
    clear hC2 c9' hWC hj0'
    by_cases hlt : T1 < 64
    · have hlt' : decide (T1 < 64) = true := by simpa using hlt
      go_wp2
      go_step3
      subst hT1
      refine ⟨rfl, MixJ.of (t + 1) (Hs.rndI ⟨sa, sb, sc, sd, se, sf, sg, sl⟩ (shaKw t) (shaW (msgW f) t)) _ (by kernel_rfl) (by omega) ?_ (Joins.block_setCell hC2'.out _) (by simp [hCs'.out]) (mix_cells gj0 hCs'.out hCw'.out) (hB2.setCell (by simp) _), ?_⟩
      · rw [Hs.rndI_eq]
        show _ = (h.rnds (msgW f) t).rnd _ _
        rw [← hs'.out]
      · show 64 - (((t + 1 : Nat) : Int)).toNat < 64 - ((t : Int)).toNat
        omega
    · have hlt' : decide (T1 < 64) = false := by simpa using hlt
      go_wp2
      have hM0 : MixU hb H tH (fun j => h.at j + (h.rnds (msgW f) 64).at j) 0 w (W2.setCell ⟨w.heap.size, j0, none⟩ (.int .u32 (wi (shaW (msgW f) (t + 16))))) := MixU.start _ (by rw [Below.heap_setCell _ _ _ _ (by simp only; omega), hB2.block _ hhb]; exact hH) ((Apart.of_below hB2).setCell' (Nat.le_refl _) _)
      have hq : Hs.rndI ⟨sa, sb, sc, sd, se, sf, sg, sl⟩ (shaKw t) (shaW (msgW f) t) = h.rnds (msgW f) 64 := by
        have e : t = 63 := by omega
        rw [Hs.rndI_eq, hs'.out, e]
        rfl
      refine mix_tail (A := (Hs.rndI ⟨sa, sb, sc, sd, se, sf, sg, sl⟩ (shaKw t) (shaW (msgW f) t)).cells.toArray) hb H tH h (h.rnds (msgW f) 64) w _ (by kernel_rfl) (by rw [hq]) hHc'.out hM0 ?_
      intro a w' hd hM8
      go_wp2
      simp only [Exit.jump]
      exact bodyPost_end (results_none rfl _ _ _) hd ⟨rfl, hM8.same (fun j => by rw [Hs.mix, Hs.add_at])⟩
  · intro hrest
    have hrest' := Lib.hid hrest
    clear hrest
    go_wp2
    refine mix_head hb bb bo len cap f w _ hl hl2 hby'.out hbb (by kernel_rfl) (Words16.start _ _ _ _ _ (heap_alloc_last w _) rfl ((Below.refl _ _).alloc (Nat.le_refl _) _)) ?_
    intro a w' ha ⟨C, hC, hCs, hCw, hB⟩
    rw [ha]
    generalize (fun k => a.tmps.getD k undef) = u
    clear ha a
    unfold MixF0
    have hcell (j : Nat) (hj : j < 8) : w'.cell? ⟨hb, j, none⟩ = some (.int .u32 (wi (h.at j))) := (hB.cell (by exact hhb)).trans ((cell_of_row w hb j H _ _ hH).trans (hHc'.out j hj))
    have q0 : w'.cell? ⟨hb, 0, none⟩ = some (.int .u32 (wi h.a)) := hcell 0 (by omega)
    have q1 : w'.cell? ⟨hb, 1, none⟩ = some (.int .u32 (wi h.b)) := hcell 1 (by omega)
    have q2 : w'.cell? ⟨hb, 2, none⟩ = some (.int .u32 (wi h.c)) := hcell 2 (by omega)
    have q3 : w'.cell? ⟨hb, 3, none⟩ = some (.int .u32 (wi h.d)) := hcell 3 (by omega)
    have q4 : w'.cell? ⟨hb, 4, none⟩ = some (.int .u32 (wi h.e)) := hcell 4 (by omega)
    have q5 : w'.cell? ⟨hb, 5, none⟩ = some (.int .u32 (wi h.f)) := hcell 5 (by omega)
    have q6 : w'.cell? ⟨hb, 6, none⟩ = some (.int .u32 (wi h.g)) := hcell 6 (by omega)
    have q7 : w'.cell? ⟨hb, 7, none⟩ = some (.int .u32 (wi h.l)) := hcell 7 (by omega)
    have hC' := Lib.hid hC
    have hCs' := Lib.hid hCs
    have hCw' := Lib.hid hCw
    clear hcell hC hCs hCw
    go_wp2
    go_big_quiet (fail)
    go_wp2
    go_step3
    simp only [Exit.then]
    rename_i K hK
    refine hK _ _ ?_
    refine hrest'.out _ _ (MixJ.of 0 h C (by kernel_rfl) (by omega) rfl hC'.out hCs'.out (fun k hk => by rw [Nat.zero_add, Nat.mod_eq_of_lt hk, shaW_lo _ _ hk]; exact hCw'.out k hk) ⟨hB.os, hB.tape, hB.output, hB.size, hB.block⟩)
end Go.Proofs.YtfnjcpopadpmbaaDoor
