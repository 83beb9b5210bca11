/- Plain words on cells, used by the walks of this seat: the number in a cell, ranges of cells; laws for the load, the making and the storing of a struct of many cells. Nothing of the program stands here. -/
/- More plain words on cells: a range of an array's cells behind a name that the walk doesn't open. -/
/- SHA-256 in plain words: words of 32 bits, the schedule, the rounds; how Go's operations on uint32 read in them. -/
/- turn of the program, rot of the reference: a word turned to the right. -/
/- Types whose values are numbers and bools in a row ("flat"): '==' on two such values compares cell by cell. Over any program. -/
/- How a state reads: its flat cells as numbers, its seven slices as lists; which states are right, in plain words. -/
/- Laws of single operations; a region that draws its order, taken by hand. Over any program. -/
import Derived.WalkKit
import Derived.WalkSpells
import Derived.WalkLawsBesides
import Derived.Deep.QuietTactic
import Derived.BigQuiet
import Derived.Deep.MidRow
import Derived.Deep.WholeRow
import Derived.Lib.Hide
import Derived.Test.YtfnjcpopadpmbaaDoorChecked
import Derived.Deep.RegionHeld
import Derived.Lib.SmallJoins
set_option linter.unusedVariables false
set_option linter.unusedSimpArgs false
set_option linter.unnecessarySimpa false
namespace Go.Proofs.YtfnjcpopadpmbaaDoor
open Go.RowKit

/-- The number in a cell: of a bool 0 or 1. -/
def num : Value → Int
  | .int _ n => n
  | .bool b => if b then 1 else 0
  | _ => 0

theorem run_newVar_row {P : Program} (w : World) (ty : TypeId) (z : Array Value) : (newVar ty (.agg z)).run P w = .ok ⟨w.heap.size, 0, none⟩ (w.alloc (.cells z ty)) := by
  simp [newVar, newRow, Value.cells]

/-- Making a variable of a struct type and storing a value into it, one behind the other: one block more. -/
theorem wpList_alloc_store {P : Program} {ops : Array Oper} {rest : List Oper} {o1 o2 : Oper} {a : Act} {w : World} {Q : Exit → Act → World → Prop}
    (hg1 : o1.guard = none) (hg2 : o2.guard = none) (ty : TypeId) (d : Tmp) (y : Operand) (ho1 : o1.op = .alloc ty) (hd1 : o1.dst = some d)
    (ho2 : o2.op = .store ty (.tmp d) y) (cs : Array Value)
    (hx : (a.put (some d) (.pointer (some ⟨w.heap.size, 0, none⟩))).eval (.tmp d) = .pointer (some ⟨w.heap.size, 0, none⟩)) (hy : (a.put (some d) (.pointer (some ⟨w.heap.size, 0, none⟩))).eval y = .agg cs)
    (z : Array Value) (hz : (P.info? ty).map (fun i => (i.zero, i.size)) = some (some (.agg z), cs.size)) (hzs : z.size = cs.size) (h1 : cs.all (·.oneCell') = true)
    (h : wpList P ops Q rest ((a.put (some d) (.pointer (some ⟨w.heap.size, 0, none⟩))).put o2.dst undef) (w.alloc (.cells cs ty))) : wpList P ops Q (o1 :: o2 :: rest) a w := by
  obtain ⟨hz1, hz2⟩ := zero_of_info hz
  refine wpList_plain hg1 fun K hK => ?_
  unfold Oper.wp execOp
  simp only [ho1, hd1, Instr.alloc, Sem.run_bind, hz1, Result.andThen, run_newVar_row, Sem.run_pure, Oper.upon_value]
  refine hK _ _ (wpList_plain hg2 fun K2 hK2 => ?_)
  unfold Oper.wp execOp
  simp only [ho2, hx, hy, Sem.run_bind, run_storeAt_new w ty z cs hz2 hzs h1, Result.andThen, Sem.run_pure, Oper.upon_skip]
  exact hK2 _ _ h
end Go.Proofs.YtfnjcpopadpmbaaDoor
namespace Go.Proofs.YtfnjcpopadpmbaaDoor
open Go.RowKit

end Go.Proofs.YtfnjcpopadpmbaaDoor
namespace Go.Proofs.YtfnjcpopadpmbaaDoor
open Go.RowKit
/-- The zero value's cells of a type of many cells. -/
def zeroOf (P : Program) (t : TypeId) : Array Value := match (P.info? t).bind (·.zero) with | some (.agg z) => z | _ => #[]
/-- A type's row: its zero value has as many cells as it says. -/
def rowB (P : Program) (t : TypeId) (n : Nat) : Bool := match P.info? t with | some i => (match i.zero with | some (.agg z) => i.size == n && z.size == n | _ => false) | none => false
theorem row_zero {P : Program} {t n : Nat} (h : rowB P t n = true) : (P.info? t).map (fun i => (i.zero, i.size)) = some (some (.agg (zeroOf P t)), n) ∧ (zeroOf P t).size = n := by
  unfold rowB at h
  unfold zeroOf
  split at h
  · rename_i i hi
    split at h
    · rename_i z hz
      simp only [Bool.and_eq_true, beq_iff_eq] at h
      simp [hi, hz, h.1, h.2]
    · cases h
  · cases h
theorem row_size {P : Program} {t n : Nat} (h : rowB P t n = true) : (P.info? t).map (·.size) = some n := (zero_of_info (row_zero h).1).2
end Go.Proofs.YtfnjcpopadpmbaaDoor
namespace Go.Proofs.YtfnjcpopadpmbaaDoor
section guards
variable {P : Program} {ops : Array Oper} {rest : List Oper} {a : Act} {w : World} {Q : Exit → Act → World → Prop} {d : Option Tmp} {ty : TypeId} {pos : String} {af : Array Edge} {g : Option (Nat × Bool)}
/-! Guards: each says which operation stands next, and nothing else. -/
theorem at_build (t : TypeId) {ps : Array (Nat × Operand)} (h : wpList P ops Q (⟨d, .build t ps, ty, pos, af, g⟩ :: rest) a w) : wpList P ops Q (⟨d, .build t ps, ty, pos, af, g⟩ :: rest) a w := h
theorem at_load (t : TypeId) {x : Operand} (h : wpList P ops Q (⟨d, .load t x, ty, pos, af, g⟩ :: rest) a w) : wpList P ops Q (⟨d, .load t x, ty, pos, af, g⟩ :: rest) a w := h
theorem at_alloc (t : TypeId) (h : wpList P ops Q (⟨d, .alloc t, ty, pos, af, g⟩ :: rest) a w) : wpList P ops Q (⟨d, .alloc t, ty, pos, af, g⟩ :: rest) a w := h
theorem at_store (t : TypeId) {x y : Operand} (h : wpList P ops Q (⟨d, .store t x y, ty, pos, af, g⟩ :: rest) a w) : wpList P ops Q (⟨d, .store t x y, ty, pos, af, g⟩ :: rest) a w := h
theorem at_index (t : TypeId) {x y : Operand} (h : wpList P ops Q (⟨d, .index t x y, ty, pos, af, g⟩ :: rest) a w) : wpList P ops Q (⟨d, .index t x y, ty, pos, af, g⟩ :: rest) a w := h
theorem at_call_builtin (b : Builtin) {xs : Array Operand} {ts : Array TypeId} (h : wpList P ops Q (⟨d, .call { callee := .builtin b, args := xs, argTypes := ts }, ty, pos, af, g⟩ :: rest) a w) : wpList P ops Q (⟨d, .call { callee := .builtin b, args := xs, argTypes := ts }, ty, pos, af, g⟩ :: rest) a w := h
end guards
end Go.Proofs.YtfnjcpopadpmbaaDoor
namespace Go.Proofs.YtfnjcpopadpmbaaDoor
open Go.RowKit
end Go.Proofs.YtfnjcpopadpmbaaDoor
namespace Go.Proofs.YtfnjcpopadpmbaaDoor
open Go.RowKit
end Go.Proofs.YtfnjcpopadpmbaaDoor
namespace Go.Proofs.YtfnjcpopadpmbaaDoor
open Go.RowKit
theorem below_box {w wr : World} {o : Obj} (h : Below (w.heap.size + 1) (w.alloc o) wr) : Below w.heap.size w wr :=
  ((Below.refl _ _).alloc (Nat.le_refl _) _).trans (h.mono (by omega))
theorem box_cell {w wr : World} {xs : Array Value} {t : TypeId} (h : Below (w.heap.size + 1) (w.alloc (.cells xs t)) wr) (j : Nat) : wr.cell? ⟨w.heap.size, j, none⟩ = xs[j]? := by
  rw [h.cell (by simp)]
  exact cell_of_row _ _ _ _ _ _ (heap_alloc_last w _)
/-- An element of one cell out of an array value. -/
theorem run_index_one {P : Program} (w : World) (t e n : Nat) (hu : P.underlying t = some (.array n e)) {d : TypeDesc} (he : P.underlying e = some d) (hd : d.isRow = false) (hs : (P.info? e).map (·.size) = some 1)
    (cs : Array Value) (k : IntKind) (i : Nat) (hi : i < n) (v : Value) (hv : cs[i]? = some v) : (Instr.index t (.agg cs) (.int k i)).run P w = .ok v w := by
  cases hq : P.info? e with
  | none => simp [hq] at hs
  | some j =>
    have hj : j.size = 1 := by simpa [hq] using hs
    have hagg : (isAgg e).run P w = .ok false w := by
      unfold isAgg
      rw [Sem.run_bind, run_underlying he w]
      cases d <;> simp_all
    simp [Instr.index, asIntOf, Sem.run_bind, run_underlying hu, Result.andThen, sizeOf, typeInfo, hq, hj, part, hagg, hi, hv]
end Go.Proofs.YtfnjcpopadpmbaaDoor
namespace Go.Proofs.YtfnjcpopadpmbaaDoor

abbrev W32 := BitVec 32
/-- A word as a number. -/
def wi (x : W32) : Int := (x.toNat : Int)
def rotr (x : W32) (k : Nat) : W32 := (x >>> k) ||| (x <<< (32 - k))
def sg0 (x : W32) : W32 := rotr x 7 ^^^ rotr x 18 ^^^ (x >>> 3)
def sg1 (x : W32) : W32 := rotr x 17 ^^^ rotr x 19 ^^^ (x >>> 10)
def Sg0 (x : W32) : W32 := rotr x 2 ^^^ rotr x 13 ^^^ rotr x 22
def Sg1 (x : W32) : W32 := rotr x 6 ^^^ rotr x 11 ^^^ rotr x 25
def chW (e f g : W32) : W32 := (e &&& f) ^^^ (~~~e &&& g)
def majW (a b c : W32) : W32 := (a &&& b) ^^^ (a &&& c) ^^^ (b &&& c)
def shaK : List Nat := [0x428a2f98, 0x71374491, 0xb5c0fbcf, 0xe9b5dba5, 0x3956c25b, 0x59f111f1, 0x923f82a4, 0xab1c5ed5, 0xd807aa98, 0x12835b01, 0x243185be, 0x550c7dc3, 0x72be5d74, 0x80deb1fe, 0x9bdc06a7, 0xc19bf174, 0xe49b69c1, 0xefbe4786, 0x0fc19dc6, 0x240ca1cc, 0x2de92c6f, 0x4a7484aa, 0x5cb0a9dc, 0x76f988da, 0x983e5152, 0xa831c66d, 0xb00327c8, 0xbf597fc7, 0xc6e00bf3, 0xd5a79147, 0x06ca6351, 0x14292967, 0x27b70a85, 0x2e1b2138, 0x4d2c6dfc, 0x53380d13, 0x650a7354, 0x766a0abb, 0x81c2c92e, 0x92722c85, 0xa2bfe8a1, 0xa81a664b, 0xc24b8b70, 0xc76c51a3, 0xd192e819, 0xd6990624, 0xf40e3585, 0x106aa070, 0x19a4c116, 0x1e376c08, 0x2748774c, 0x34b0bcb5, 0x391c0cb3, 0x4ed8aa4a, 0x5b9cca4f, 0x682e6ff3, 0x748f82ee, 0x78a5636f, 0x84c87814, 0x8cc70208, 0x90befffa, 0xa4506ceb, 0xbef9a3f7, 0xc67178f2]
def shaKw (t : Nat) : W32 := BitVec.ofNat 32 (shaK.getD t 0)
/-- The schedule's word t. -/
def shaW (M : Nat → W32) (t : Nat) : W32 :=
  if _h : t < 16 then M t else sg1 (shaW M (t - 2)) + shaW M (t - 7) + sg0 (shaW M (t - 15)) + shaW M (t - 16)
termination_by t
decreasing_by all_goals omega
theorem shaW_lo (M : Nat → W32) (t : Nat) (h : t < 16) : shaW M t = M t := by rw [shaW, dif_pos h]
theorem shaW_hi (M : Nat → W32) (t : Nat) : shaW M (t + 16) = sg1 (shaW M (t + 14)) + shaW M (t + 9) + sg0 (shaW M (t + 1)) + shaW M t := by
  rw [shaW, dif_neg (by omega)]
  congr 2
structure Hs where
  (a b c d e f g l : W32)
def Hs.rnd (s : Hs) (k w : W32) : Hs :=
  ⟨s.l + Sg1 s.e + chW s.e s.f s.g + k + w + (Sg0 s.a + majW s.a s.b s.c), s.a, s.b, s.c, s.d + (s.l + Sg1 s.e + chW s.e s.f s.g + k + w), s.e, s.f, s.g⟩
def Hs.rnds (s : Hs) (M : Nat → W32) : Nat → Hs
  | 0 => s
  | t + 1 => (s.rnds M t).rnd (shaKw t) (shaW M t)
def Hs.add (s r : Hs) : Hs := ⟨s.a + r.a, s.b + r.b, s.c + r.c, s.d + r.d, s.e + r.e, s.f + r.f, s.g + r.g, s.l + r.l⟩
/-- One block more. -/
def Hs.mix (s : Hs) (M : Nat → W32) : Hs := s.add (s.rnds M 64)

/-! Go's operations on uint32. -/
theorem wi_lo (x : W32) : 0 ≤ wi x := Int.natCast_nonneg _
theorem wi_hi (x : W32) : wi x < 4294967296 := by have := x.isLt; unfold wi; omega
theorem wi_wrap (x : W32) : IntKind.u32.wrap (wi x) = wi x := by
  rw [IntKind.wrap_u32]
  exact Int.emod_eq_of_lt (wi_lo x) (wi_hi x)
theorem ofInt_wi (x : W32) : BitVec.ofInt 32 (wi x) = x := by
  apply BitVec.eq_of_toNat_eq
  rw [wi, BitVec.ofInt_natCast, BitVec.toNat_ofNat]
  exact Nat.mod_eq_of_lt x.isLt
theorem wi_add (x y : W32) : IntKind.u32.wrap (wi x + wi y) = wi (x + y) := by
  rw [IntKind.wrap_u32]
  simp only [wi, BitVec.toNat_add]
  omega
theorem wi_xor (x y : W32) : bits .xor .u32 (wi x) (wi y) = wi (x ^^^ y) := by
  have e : bits .xor .u32 (wi x) (wi y) = IntKind.u32.wrap (wi (BitVec.ofInt 32 (wi x) ^^^ BitVec.ofInt 32 (wi y))) := rfl
  rw [e, ofInt_wi, ofInt_wi, wi_wrap]
theorem wi_and (x y : W32) : bits .and .u32 (wi x) (wi y) = wi (x &&& y) := by
  have e : bits .and .u32 (wi x) (wi y) = IntKind.u32.wrap (wi (BitVec.ofInt 32 (wi x) &&& BitVec.ofInt 32 (wi y))) := rfl
  rw [e, ofInt_wi, ofInt_wi, wi_wrap]
theorem wi_or (x y : W32) : bits .or .u32 (wi x) (wi y) = wi (x ||| y) := by
  have e : bits .or .u32 (wi x) (wi y) = IntKind.u32.wrap (wi (BitVec.ofInt 32 (wi x) ||| BitVec.ofInt 32 (wi y))) := rfl
  rw [e, ofInt_wi, ofInt_wi, wi_wrap]
theorem wi_not (x : W32) : bits .xor .u32 4294967295 (wi x) = wi (~~~x) := by
  have e : (4294967295 : Int) = wi (BitVec.allOnes 32) := rfl
  rw [e, wi_xor]
  congr 1
theorem wi_shl (x : W32) (k : Nat) : IntKind.u32.wrap (wi x * 2 ^ k) = wi (x <<< k) := by
  rw [IntKind.wrap_u32]
  have e : ((2 ^ 32 : Nat) : Int) = 4294967296 := rfl
  rw [wi, wi, BitVec.toNat_shiftLeft, Nat.shiftLeft_eq, Int.natCast_emod, Int.natCast_mul, Int.natCast_pow, e]
  rfl
theorem wi_shr (x : W32) (k : Nat) : wi x / 2 ^ k = wi (x >>> k) := by
  rw [wi, wi, BitVec.toNat_ushiftRight, Nat.shiftRight_eq_div_pow, Int.natCast_ediv, Int.natCast_pow]
  rfl
theorem wi_shr3 (x : W32) : wi x / (8 : Int) = wi (x >>> 3) := wi_shr x 3
theorem wi_shr10 (x : W32) : wi x / (1024 : Int) = wi (x >>> 10) := wi_shr x 10
theorem ch_eq (e f g : W32) : g ^^^ (e &&& (f ^^^ g)) = chW e f g := by
  unfold chW
  ext i hi
  simp only [BitVec.getElem_xor, BitVec.getElem_and, BitVec.getElem_not]
  cases e[i] <;> cases f[i] <;> cases g[i] <;> rfl
theorem maj_eq (a b c : W32) : (a &&& b) ||| (c &&& (a ||| b)) = majW a b c := by
  unfold majW
  ext i hi
  simp only [BitVec.getElem_xor, BitVec.getElem_and, BitVec.getElem_or]
  cases a[i] <;> cases b[i] <;> cases c[i] <;> rfl
/-- A turn by an integer. -/
def rotI (x : W32) (k : Int) : W32 := rotr x k.toNat
/-- A round as the program spells it. -/
def Hs.rndI (s : Hs) (k w : W32) : Hs :=
  ⟨s.l + (rotI s.e 6 ^^^ rotI s.e 11 ^^^ rotI s.e 25) + (s.g ^^^ (s.e &&& (s.f ^^^ s.g))) + k + w + ((rotI s.a 2 ^^^ rotI s.a 13 ^^^ rotI s.a 22) + ((s.a &&& s.b) ||| (s.c &&& (s.a ||| s.b)))), s.a, s.b, s.c,
    s.d + (s.l + (rotI s.e 6 ^^^ rotI s.e 11 ^^^ rotI s.e 25) + (s.g ^^^ (s.e &&& (s.f ^^^ s.g))) + k + w), s.e, s.f, s.g⟩
theorem Hs.rndI_eq (s : Hs) (k w : W32) : s.rndI k w = s.rnd k w := by
  unfold Hs.rndI Hs.rnd
  rw [ch_eq, maj_eq]
  rfl
theorem shaW_prog (M : Nat → W32) (t : Nat) :
    shaW M t + (rotI (shaW M (t + 1)) 7 ^^^ rotI (shaW M (t + 1)) 18 ^^^ shaW M (t + 1) >>> 3) + shaW M (t + 9) + (rotI (shaW M (t + 14)) 17 ^^^ rotI (shaW M (t + 14)) 19 ^^^ shaW M (t + 14) >>> 10) = shaW M (t + 16) := by
  rw [shaW_hi]
  show shaW M t + sg0 (shaW M (t + 1)) + shaW M (t + 9) + sg1 (shaW M (t + 14)) = _
  ac_rfl
/-- The eight words by their places. -/
def Hs.at (s : Hs) : Nat → W32
  | 0 => s.a | 1 => s.b | 2 => s.c | 3 => s.d | 4 => s.e | 5 => s.f | 6 => s.g | _ => s.l
theorem Hs.add_at (s r : Hs) (j : Nat) : (s.add r).at j = s.at j + r.at j := by
  unfold Hs.at Hs.add
  split <;> rfl
def Hs.cells (s : Hs) : List Go.Value := [.int .u32 (wi s.a), .int .u32 (wi s.b), .int .u32 (wi s.c), .int .u32 (wi s.d), .int .u32 (wi s.e), .int .u32 (wi s.f), .int .u32 (wi s.g), .int .u32 (wi s.l)]
theorem Hs.cells_get (s : Hs) (j : Nat) (h : j < 8) : s.cells.toArray[j]? = some (.int .u32 (wi (s.at j))) := by
  match j, h with
  | 0, _ | 1, _ | 2, _ | 3, _ | 4, _ | 5, _ | 6, _ | 7, _ => rfl
/-- The words at the start. -/
def shaIv : Hs := ⟨BitVec.ofNat 32 0x6a09e667, BitVec.ofNat 32 0xbb67ae85, BitVec.ofNat 32 0x3c6ef372, BitVec.ofNat 32 0xa54ff53a, BitVec.ofNat 32 0x510e527f, BitVec.ofNat 32 0x9b05688c, BitVec.ofNat 32 0x1f83d9ab, BitVec.ofNat 32 0x5be0cd19⟩
end Go.Proofs.YtfnjcpopadpmbaaDoor
namespace Go.Proofs.YtfnjcpopadpmbaaDoor
open Go.RowKit
theorem rotr_i (x : W32) (k m : Nat) (hm : m = 32 - k) : bits .or .u32 (IntKind.u32.wrap (wi x * 2 ^ m)) (wi x / 2 ^ k) = wi (rotr x k) := by
  rw [wi_shl, wi_shr, wi_or, hm]
  congr 1
  unfold rotr
  exact BitVec.or_comm _ _
theorem rotl_any (x : W32) (k : Nat) (hk : 1 ≤ k ∧ k ≤ 31) (w : World) :
    Calls Tryd.prog 79 #[.int .u32 (wi x), .int .i64 (-(k : Int))] w fun e w' => e = .returned (.int .u32 (wi (rotr x k))) ∧ w' = w := by
  have hs : bits .and .u64 (IntKind.u64.wrap (-(k : Int))) 31 = ((32 - k : Nat) : Int) := by
    have h := bits_mask .u64 64 (by decide) (fun n h0 h1 => by rw [IntKind.wrap_u64]; omega) 5 (by decide) (IntKind.u64.wrap (-(k : Int))) (by rw [IntKind.wrap_u64]; omega) (by rw [IntKind.wrap_u64]; omega)
    have e : ((2 : Int) ^ 5 - 1) = 31 := rfl
    have e2 : ((2 : Int) ^ 5) = 32 := rfl
    rw [e, e2, IntKind.wrap_u64] at h
    rw [IntKind.wrap_u64, h]
    omega
  have hr := rotr_i x k (32 - k) rfl
  obtain ⟨m, hm⟩ : ∃ m, m = 32 - k := ⟨_, rfl⟩
  rw [← hm] at hs hr
  have hk2 : (32 : Int) - m = k := by omega
  have hr' := Lib.hid hr
  clear hr
  go_enter Tryd.func79, Tryd.ntmps79
  go_wp2
  go_ret
  refine ⟨?_, rfl⟩
  have h2 := hr'.out
  rw [IntKind.wrap_u32, hm] at h2
  show Ending.returned (.int .u32 (bits .or .u32 (wi x * 2 ^ (32 - k) % 4294967296) (wi x / 2 ^ (32 - (32 - k))))) = _
  rw [show 32 - (32 - k) = k from by omega, h2]
theorem turn_any (x : W32) (k : Nat) (hk : 1 ≤ k ∧ k ≤ 31) (w : World) :
    Calls Tryd.prog 62 #[.int .u32 (wi x), .int .i64 (k : Int)] w fun e w' => e = .returned (.int .u32 (wi (rotr x k))) ∧ w' = w := by
  have h := rotl_any x k hk
  go_enter Tryd.func62, Tryd.ntmps62
  go_wp2_with ((with_reducible refine (h _).mono ?_); rintro e w' ⟨rfl, rfl⟩)
  go_ret
  exact ⟨rfl, rfl⟩
theorem rot_any (x : W32) (k : Nat) (hk : 1 ≤ k ∧ k ≤ 31) (w : World) :
    Calls Tryd.prog 69 #[.int .u32 (wi x), .int .u64 (k : Int)] w fun e w' => e = .returned (.int .u32 (wi (rotr x k))) ∧ w' = w := by
  obtain ⟨m, hm⟩ : ∃ m, m = 32 - k := ⟨_, rfl⟩
  have hk2 : (32 : Int) - k = m := by omega
  go_enter Tryd.func69, Tryd.ntmps69
  go_wp2
  go_ret
  refine ⟨?_, rfl⟩
  show Ending.returned (.int .u32 (bits .or .u32 (wi x / 2 ^ k) (wi x * 2 ^ (32 - k) % 4294967296))) = _
  have e : wi x * 2 ^ (32 - k) % 4294967296 = wi (x <<< (32 - k)) := by rw [← wi_shl, IntKind.wrap_u32]
  rw [e, wi_shr, wi_or]
  rfl
end Go.Proofs.YtfnjcpopadpmbaaDoor
namespace Go.Proofs.YtfnjcpopadpmbaaDoor
open Go.RowKit

inductive LK where
  | int (k : IntKind)
  | bool
def LK.fit : LK → Value → Prop
  | .int k, v => ∃ n, v = .int k n
  | .bool, v => ∃ b, v = .bool b
def fits : List LK → List Value → Prop
  | [], [] => True
  | k :: ks, v :: vs => k.fit v ∧ fits ks vs
  | _, _ => False
section
variable {P : Program}
end
end Go.Proofs.YtfnjcpopadpmbaaDoor
namespace Go.Proofs.YtfnjcpopadpmbaaDoor
open Go.RowKit

/-- The kind of a flat cell. -/
inductive CK where
  | u8 | u64 | bool
def CK.mk : CK → Int → Value
  | .u8, n => .int .u8 n
  | .u64, n => .int .u64 n
  | .bool, n => .bool (decide (n ≠ 0))
def CK.ok : CK → Int → Prop
  | .u8, n => 0 ≤ n ∧ n ≤ 255
  | .u64, n => 0 ≤ n ∧ n ≤ 18446744073709551615
  | .bool, n => n = 0 ∨ n = 1
def nil0 : Nat → Int := fun _ => 0
/-- The cells of a validator. -/
def valK (j : Nat) : CK := if j < 80 then .u8 else if j = 81 then .bool else .u64
def u8K (_ : Nat) : CK := .u8
def eth1K (j : Nat) : CK := if j = 32 then .u64 else .u8
/-- The flat cells of a state; none: a slice lies there. -/
def stK (k : Nat) : Option CK :=
  if k = 653 ∨ k = 719 ∨ k = 721 ∨ k = 722 ∨ k = 987 ∨ k = 988 ∨ k = 1092 ∨ 1957 ≤ k then none else
  some (if k = 0 ∨ k = 33 ∨ k = 42 ∨ k = 43 ∨ k = 44 ∨ k = 686 ∨ k = 720 ∨ (979 ≤ k ∧ k ≤ 986) ∨ k = 993 ∨ k = 1026 ∨ k = 1059 then .u64
  else if 989 ≤ k ∧ k ≤ 992 then .bool else .u8)

structure Sx where
  n : Nat → Int
  hist : List (Nat → Int)
  votes : List (Nat → Int)
  vals : List (Nat → Int)
  bals : List Int
  prev : List Int
  cur : List Int
  scores : List Int

/-- Integers that lie one behind the other. -/
structure Row (w : World) (va : Option Addr) (k : CK) (l : List Int) : Prop where
  cell : ∀ i, i < l.length → ∃ b o, va = some ⟨b, o, none⟩ ∧ w.cell? ⟨b, o + i, none⟩ = some (k.mk (l.getD i 0))
  ok : ∀ n ∈ l, k.ok n
/-- Structs of flat cells that lie one behind the other. -/
structure Rows (w : World) (va : Option Addr) (sz : Nat) (kd : Nat → CK) (l : List (Nat → Int)) : Prop where
  cell : ∀ i, i < l.length → ∃ b o, va = some ⟨b, o, none⟩ ∧ ∀ j, j < sz → w.cell? ⟨b, o + i * sz + j, none⟩ = some ((kd j).mk (l.getD i nil0 j))
  ok : ∀ f ∈ l, ∀ j, j < sz → (kd j).ok (f j)
/-- A slice of integers in the cell k. -/
def SlI (w : World) (xs : Array Value) (k : Nat) (c : CK) (l : List Int) : Prop :=
  ∃ va cap, xs[k]? = some (.slice va l.length cap) ∧ Row w va c l ∧ l.length ≤ 9223372036854775807
def SlS (w : World) (xs : Array Value) (k : Nat) (sz : Nat) (kd : Nat → CK) (l : List (Nat → Int)) : Prop :=
  ∃ va cap, xs[k]? = some (.slice va l.length cap) ∧ Rows w va sz kd l ∧ l.length ≤ 9223372036854775807
structure StRep (w : World) (xs : Array Value) (s : Sx) : Prop where
  size : xs.size = 1957
  one : ∀ v ∈ xs, v.oneCell' = true
  flat : ∀ k c, stK k = some c → xs[k]? = some (c.mk (s.n k)) ∧ c.ok (s.n k)
  hist : SlS w xs 653 32 u8K s.hist
  votes : SlS w xs 719 65 eth1K s.votes
  vals : SlS w xs 721 86 valK s.vals
  bals : SlI w xs 722 .u64 s.bals
  prev : SlI w xs 987 .u8 s.prev
  cur : SlI w xs 988 .u8 s.cur
  scores : SlI w xs 1092 .u64 s.scores

theorem StRep.u64 {w : World} {xs : Array Value} {s : Sx} (h : StRep w xs s) (k : Nat) (hk : stK k = some .u64) : xs[k]? = some (.int .u64 (s.n k)) := (h.flat k _ hk).1
theorem StRep.u64b {w : World} {xs : Array Value} {s : Sx} (h : StRep w xs s) (k : Nat) (hk : stK k = some .u64) : 0 ≤ s.n k ∧ s.n k ≤ 18446744073709551615 := (h.flat k _ hk).2

/-! Right states. -/
/-- Is the sum of these not too much? -/
def fewB (r : Int) : List Int → Bool
  | [] => true
  | n :: l => if r < n then false else fewB (r - n) l
theorem fewB_drop (r : Int) (l : List Int) (k : Nat) (h : k < l.length) : fewB r (l.drop k) = if r < l.getD k 0 then false else fewB (r - l.getD k 0) (l.drop (k + 1)) := by
  rw [List.drop_eq_getElem_cons h]
  simp [fewB, List.getD, h]
def epochB (e : Int) : Bool := e == 18446744073709551615 || decide (e < 2199023255552)
def valB (v : Nat → Int) : Bool :=
  decide (v 80 ≤ 32000000000) && v 80 % 1000000000 == 0 && epochB (v 82) && epochB (v 83) && epochB (v 84) && epochB (v 85)
def scoreB (n : Int) : Bool := decide (n ≤ 1099511627776)
def Sx.slash (s : Sx) : List Int := (List.range 8).map fun i => s.n (979 + i)
def Sx.lensB (s : Sx) : Bool :=
  decide (s.vals.length ≤ 65536) && s.bals.length == s.vals.length && s.prev.length == s.vals.length && s.cur.length == s.vals.length && s.scores.length == s.vals.length &&
  decide (s.hist.length ≤ 1024) && decide (s.votes.length ≤ 8)
def Sx.numsB (s : Sx) : Bool := decide (s.n 33 < 1099511627776) && decide (s.n 720 < 1099511627776) && decide (s.n 43 ≤ s.n 33)
def Sx.cksB (s : Sx) : Bool := decide (s.n 993 ≤ s.n 33 / 4) && decide (s.n 1026 ≤ s.n 33 / 4) && decide (s.n 1059 ≤ s.n 33 / 4)
def Sx.rightB (s : Sx) : Bool :=
  s.lensB && (s.numsB && (s.cksB && (s.vals.all valB && (s.scores.all scoreB && (fewB 144115188075855872 s.bals && fewB 144115188075855872 s.slash)))))
end Go.Proofs.YtfnjcpopadpmbaaDoor
namespace Go.Proofs.YtfnjcpopadpmbaaDoor
open Go.RowKit
theorem Row.later {w w' : World} {va : Option Addr} {k : CK} {l : List Int} (h : Row w va k l) (hb : Below w.heap.size w w') : Row w' va k l :=
  ⟨fun i hi => let ⟨b, o, e, hc⟩ := h.cell i hi; ⟨b, o, e, (hb.cell (block_lt_of_cell hc)).trans hc⟩, h.ok⟩
theorem Rows.later {w w' : World} {va : Option Addr} {sz : Nat} {kd : Nat → CK} {l : List (Nat → Int)} (h : Rows w va sz kd l) (hb : Below w.heap.size w w') : Rows w' va sz kd l :=
  ⟨fun i hi => let ⟨b, o, e, hc⟩ := h.cell i hi; ⟨b, o, e, fun j hj => (hb.cell (block_lt_of_cell (hc j hj))).trans (hc j hj)⟩, h.ok⟩
/-- The cells of a struct of flat cells. -/
def fcells (n : Nat) (kd : Nat → CK) (f : Nat → Int) : List Value := (List.range n).map fun j => (kd j).mk (f j)
theorem fcells_length (n : Nat) (kd : Nat → CK) (f : Nat → Int) : (fcells n kd f).length = n := by simp [fcells]
theorem fcells_get (n : Nat) (kd : Nat → CK) (f : Nat → Int) (j : Nat) (h : j < n) : (fcells n kd f)[j]? = some ((kd j).mk (f j)) := by
  simp [fcells, h]
theorem fcells_one (n : Nat) (kd : Nat → CK) (f : Nat → Int) : (fcells n kd f).toArray.all (·.oneCell') = true := by
  rw [Array.all_eq_true_iff_forall_mem]
  intro v hv
  have hv' : v ∈ fcells n kd f := by simpa using hv
  obtain ⟨j, _, rfl⟩ := List.mem_map.1 hv'
  cases kd j <;> rfl
theorem Rows.range {w : World} {va : Option Addr} {sz : Nat} {kd : Nat → CK} {l : List (Nat → Int)} (h : Rows w va sz kd l) (i : Nat) (hi : i < l.length) :
    ∃ b o, va = some ⟨b, o, none⟩ ∧ w.rangeAt b (o + i * sz) (fcells sz kd (l.getD i nil0)) := by
  obtain ⟨b, o, e, hc⟩ := h.cell i hi
  refine ⟨b, o, e, fun j v hv => ?_⟩
  have hj : j < sz := by
    have := (List.getElem?_eq_some_iff.1 hv).1
    simpa [fcells] using this
  rw [fcells_get _ _ _ _ hj] at hv
  rw [hc j hj, hv]
end Go.Proofs.YtfnjcpopadpmbaaDoor
namespace Go.Proofs.YtfnjcpopadpmbaaDoor
open Go.RowKit
set_option maxRecDepth 100000
theorem heap_past (w : World) (o p : Obj) (k : Nat) (h : w.heap[k]? = some p) : (w.alloc o).heap[k]? = some p := by
  rw [Below.heap_alloc w o k (by
    by_cases hlt : k < w.heap.size
    · exact hlt
    · simp [Array.getElem?_eq_none (Nat.le_of_not_lt hlt)] at h)]
  exact h
section
variable {P : Program} {ops : Array Oper} {rest : List Oper} {o : Oper} {a : Act} {w : World}

theorem run_load_rows {ρ : Operand → Value} (w : World) (ty : TypeId) (x : Operand) (ho : o.op = .load ty x) (b k : Nat) (hx : ρ x = .pointer (some ⟨b, k, none⟩)) (cs : List Value) (d : TypeDesc) (hc : w.rangeAt b k cs)
    (hu : P.underlying ty = some d) (hd : d.isRow = true) (hi : (P.info? ty).map (·.size) = some cs.length) :
    (execOp ρ o).run P w = .ok (.value (.agg cs.toArray)) w := by
  unfold execOp
  simp only [ho, hx, Sem.run_bind, run_loadAt_mid w b k ty cs d hc hu hd hi, Result.andThen, Sem.run_pure]
theorem run_load_cell {ρ : Operand → Value} (w : World) (ty : TypeId) (x : Operand) (ho : o.op = .load ty x) (p : Addr) (hx : ρ x = .pointer (some p)) (v : Value) (hc : w.cell? p = some v) (d : TypeDesc)
    (hu : P.underlying ty = some d) (hd : d.isRow = false) :
    (execOp ρ o).run P w = .ok (.value v) w := by
  have hagg : (isAgg ty).run P w = .ok false w := by
    unfold isAgg
    rw [Sem.run_bind, run_underlying hu w]
    cases d <;> simp_all
  have hl : (loadVar ty p).run P w = .ok v w := by
    simp [loadVar, Sem.run_bind, hagg, Result.andThen, go_sem, hc]
  unfold execOp
  simp only [ho, hx, Instr.loadAt, Instr.sureAddr, Sem.run_bind, Sem.run_pure, hl, Result.andThen]

/-- What yields a value and leaves the world alone, in a plain region. -/
theorem wpList_value {Q : Exit → Act → World → Prop} (hw : Region.wanted o (yielded ops a.tmps) = true) (v : Value) (he : (execOp a.eval o).run P w = .ok (.value v) w)
    (h : wpList P ops Q rest (a.put o.dst v) w) : wpList P ops Q (o :: rest) a w := by
  unfold wpList
  rw [if_pos hw]
  refine .inl ?_
  unfold Oper.wp
  simp only [he, Oper.upon_value]
  exact h
end

def CK.lk : CK → LK
  | .u8 => .int .u8
  | .u64 => .int .u64
  | .bool => .bool
theorem CK.fit (c : CK) (n : Int) : c.lk.fit (c.mk n) := by cases c <;> exact ⟨_, rfl⟩
section
variable {P : Program} {o : Oper} {a : Act}
theorem run_nilCheck {ρ : Operand → Value} (x : Operand) (ho : o.op = .nilCheck x) (p : Addr) (hx : ρ x = .pointer (some p)) (w : World) : (execOp ρ o).run P w = .ok (.value (.pointer (some p))) w := by
  unfold execOp
  simp only [ho, hx, Sem.run_pure]
theorem run_load_box {ρ : Operand → Value} (w : World) (ty : TypeId) (x : Operand) (ho : o.op = .load ty x) (b : Nat) (hx : ρ x = .pointer (some ⟨b, 0, none⟩)) (t : TypeId) (cs : Array Value) (fr : Nat × Nat) (d : TypeDesc) (hc : w.heap[b]? = some (.cells cs t fr))
    (hu : P.underlying ty = some d) (hd : (match d with | .struct _ | .array _ _ => true | _ => false) = true) (hi : (P.info? ty).map (·.size) = some cs.size) :
    (execOp ρ o).run P w = .ok (.value (.agg cs)) w := by
  unfold execOp
  simp only [ho, hx, Instr.loadAt, Instr.sureAddr, Sem.run_bind, Sem.run_pure, Result.andThen_ok, run_loadVar_row w b t ty cs fr d hc hu hd hi]
theorem wp_call {K : Act → World → Prop} {Q : Exit → Act → World → Prop} {w : World} (f : FuncId) (args : Array Value) (he : (execOp a.eval o).run P w = .ok (.enter f args) w) (v : Value) (R : World → Prop)
    (hc : Calls P f args w fun e w' => e = .returned v ∧ R w') (h : ∀ w', R w' → K (a.put o.dst v) w') : o.wp P a w K Q := by
  unfold Oper.wp
  rw [he]
  simp only [Oper.upon]
  exact hc.mono fun e w' ⟨h1, h2⟩ => by subst h1; exact h w' h2
theorem wp_alloc_row {K : Act → World → Prop} {Q : Exit → Act → World → Prop} {w : World} (ty : TypeId) (ho : o.op = .alloc ty) (d : Tmp) (hd : o.dst = some d) (z : Array Value) (n : Nat)
    (hz : (P.info? ty).map (fun i => (i.zero, i.size)) = some (some (.agg z), n))
    (h : K (a.put (some d) (.pointer (some ⟨w.heap.size, 0, none⟩))) (w.alloc (.cells z ty))) : o.wp P a w K Q := by
  obtain ⟨hz1, _⟩ := zero_of_info hz
  unfold Oper.wp execOp
  simp only [ho, hd, Instr.alloc, Sem.run_bind, hz1, Result.andThen, run_newVar_row, Sem.run_pure, Oper.upon_value]
  exact h
end
def nth : List Oper → Nat → Option Oper
  | [], _ => none
  | o :: _, 0 => some o
  | _ :: l, i + 1 => nth l i
theorem nth_eq : ∀ (l : List Oper) (i : Nat), nth l i = l[i]?
  | [], _ => by simp [nth]
  | _ :: _, 0 => by simp [nth]
  | _ :: l, i + 1 => by simp [nth, nth_eq l i]
section
variable {P : Program} {l : List Oper} {Q : Exit → Act → World → Prop} {md : Region.Mode} {S : World → Prop}
theorem takeL {i : Nat} {oi : Oper} {v : Value} {fuel : Nat} {listed : Array Bool} {a : Act} {w : World} (hi : nth l i = some oi)
    (hs : Region.noSelect l.toArray = true) (hf : Region.free md l.toArray listed i = true) (hr : (Region.ready md l.toArray listed).contains i = true)
    (hQ : ∀ c a w, Q (.panic c) (a.put oi.dst v) w → Q (.panic c) a w) (hw : Region.wanted oi (yielded l.toArray a.tmps) = true) (hS : S w)
    (hy : ∀ w, S w → (execOp a.eval oi).run P w = .ok (.value v) w)
    (h : wpAnyH P md l.toArray Q S fuel (listed.setIfInBounds i true) (a.put oi.dst v) w) : wpAnyH P md l.toArray Q S (fuel + 1) listed a w :=
  wpAnyH_take (by rw [← hi, nth_eq]; simp) hs hf hr hQ (.inl ⟨hw, hy⟩) hS h
/-- Only one may come up. -/
theorem oneL {i : Nat} {oi : Oper} {fuel : Nat} {listed : Array Bool} {a : Act} {w : World} (hi : nth l i = some oi) (hr : Region.ready md l.toArray listed = [i]) (hw : Region.wanted oi (yielded l.toArray a.tmps) = true)
    (h : oi.wp P a w (fun a' w' => S w' ∧ wpAnyH P md l.toArray Q S fuel (listed.setIfInBounds i true) a' w') Q) : wpAnyH P md l.toArray Q S (fuel + 1) listed a w := by
  refine wpAnyH_all hr (by simp) fun j hj => ?_
  have : j = i := by simpa using hj
  subst this
  unfold wpOp
  have e : l.toArray[j]? = some oi := by rw [← hi, nth_eq]; simp
  simp only [e, hw, if_true]
  exact .inl h
/-- One of two. -/
theorem twoL {i k : Nat} {oi ok : Oper} {fuel : Nat} {listed : Array Bool} {a : Act} {w : World} (hi : nth l i = some oi) (hk : nth l k = some ok) (hr : Region.ready md l.toArray listed = [i, k]) (hwi : Region.wanted oi (yielded l.toArray a.tmps) = true) (hwk : Region.wanted ok (yielded l.toArray a.tmps) = true)
    (h1 : oi.wp P a w (fun a' w' => S w' ∧ wpAnyH P md l.toArray Q S fuel (listed.setIfInBounds i true) a' w') Q)
    (h2 : ok.wp P a w (fun a' w' => S w' ∧ wpAnyH P md l.toArray Q S fuel (listed.setIfInBounds k true) a' w') Q) : wpAnyH P md l.toArray Q S (fuel + 1) listed a w := by
  refine wpAnyH_all hr (by simp) fun j hj => ?_
  have e1 : l.toArray[i]? = some oi := by rw [← hi, nth_eq]; simp
  have e2 : l.toArray[k]? = some ok := by rw [← hk, nth_eq]; simp
  have : j = i ∨ j = k := by simpa using hj
  unfold wpOp
  rcases this with rfl | rfl
  · simp only [e1, hwi, if_true]
    exact .inl h1
  · simp only [e2, hwk, if_true]
    exact .inl h2
end
/-- All that stood in W stands as it stood, but perhaps block k. -/
structure Apart (k : Nat) (W w : World) : Prop where
  os : w.os = W.os
  tape : w.tape = W.tape
  output : w.output = W.output
  size : W.heap.size ≤ w.heap.size
  block : ∀ b, b < W.heap.size → b ≠ k → w.heap[b]? = W.heap[b]?
theorem Apart.begin (k : Nat) (W : World) : Apart k W { W with drawn := W.drawn + 1 } := ⟨rfl, rfl, rfl, Nat.le_refl _, fun _ _ _ => rfl⟩
theorem Apart.call {k : Nat} {W w w' : World} (h : Apart k W w) (hb : Below w.heap.size w w') : Apart k W w' :=
  ⟨hb.os.trans h.os, hb.tape.trans h.tape, hb.output.trans h.output, Nat.le_trans h.size hb.size, fun b h1 h2 => (hb.block b (Nat.lt_of_lt_of_le h1 h.size)).trans (h.block b h1 h2)⟩
theorem Apart.alloc {k : Nat} {W w : World} (h : Apart k W w) (o : Obj) : Apart k W (w.alloc o) :=
  h.call ((Below.refl _ _).alloc (Nat.le_refl _) _)
theorem Below.setCells {B : Nat} {a : World} (b : Nat) (hb : B ≤ b) : ∀ (vs : List Value) (o : Nat) (w : World), Below B a w → Below B a (w.setCells b o vs)
  | [], _, _, h => h
  | v :: vs, o, _, h => Below.setCells b hb vs (o + 1) _ (h.setCell (p := ⟨b, o, none⟩) hb v)
theorem block_setCells (b : Nat) : ∀ (vs : List Value) (o : Nat) (w : World), (w.setCells b o vs).heap.size = w.heap.size ∧ ∀ j, j ≠ b → (w.setCells b o vs).heap[j]? = w.heap[j]?
  | [], _, _ => ⟨rfl, fun _ _ => rfl⟩
  | v :: vs, o, w => by
    have h := block_setCells b vs (o + 1) (w.setCell ⟨b, o, none⟩ v)
    have hs : (w.setCell ⟨b, o, none⟩ v).heap.size = w.heap.size := by
      simp
    exact ⟨h.1.trans hs, fun j hj => (h.2 j hj).trans (Below.heap_setCell w ⟨b, o, none⟩ v j hj)⟩
theorem Apart.setCells {k : Nat} {W w : World} (h : Apart k W w) (b o : Nat) (vs : List Value) (hb : b = k ∨ W.heap.size ≤ b) : Apart k W (w.setCells b o vs) := by
  have h0 := Below.setCells (B := 0) (a := w) b (Nat.zero_le _) vs o w (Below.refl _ _)
  have h1 := block_setCells b vs o w
  exact ⟨h0.os.trans h.os, h0.tape.trans h.tape, h0.output.trans h.output, by rw [h1.1]; exact h.size, fun j h2 h3 => (h1.2 j (by omega)).trans (h.block j h2 h3)⟩
theorem Apart.cell {k : Nat} {W w : World} (h : Apart k W w) {p : Addr} (h1 : p.block < W.heap.size) (h2 : p.block ≠ k) : w.cell? p = W.cell? p := World.cell?_of_block (w := W) (h.block p.block h1 h2)
theorem Apart.below {k n : Nat} {a W w : World} (h : Apart k W w) (hb : Below n a W) (hk : n ≤ k) (hn : n ≤ W.heap.size) : Below n a w :=
  ⟨h.os.trans hb.os, h.tape.trans hb.tape, h.output.trans hb.output, Nat.le_trans hb.size h.size, fun b hl => (h.block b (by omega) (by omega)).trans (hb.block b hl)⟩
theorem gen_world {P : Program} {c : Code} {Q : Exit → Act → World → Prop} {a : Act} {w : World} (R : World → Prop) (hr : R w) (h : ∀ W, R W → c.wp P Q a W) : c.wp P Q a w := h w hr
theorem Apart.frozen {k : Nat} {W w : World} (h : Apart k W w) {p : Addr} (h1 : p.block < W.heap.size) (h2 : p.block ≠ k) : w.frozen? p = W.frozen? p := World.frozen?_of_block (w := W) (h.block p.block h1 h2)
theorem gen_q {Q : Exit → Act → World → Prop} {e : Exit} {a : Act} {w : World} (R : World → Prop) (hr : R w) (h : ∀ W, R W → Q e a W) : Q e a w := h w hr
section
variable {P : Program} {l : List Oper} {Q : Exit → Act → World → Prop} {md : Region.Mode} {S : World → Prop}
theorem skipL {i : Nat} {oi : Oper} {fuel : Nat} {listed : Array Bool} {a : Act} {w : World} (hi : nth l i = some oi)
    (hs : Region.noSelect l.toArray = true) (hf : Region.free md l.toArray listed i = true) (hr : (Region.ready md l.toArray listed).contains i = true)
    (hQ : ∀ c a w, Q (.panic c) (a.put oi.dst undef) w → Q (.panic c) a w) (hw : Region.wanted oi (yielded l.toArray a.tmps) = false) (hS : S w)
    (h : wpAnyH P md l.toArray Q S fuel (listed.setIfInBounds i true) (a.put oi.dst undef) w) : wpAnyH P md l.toArray Q S (fuel + 1) listed a w :=
  wpAnyH_take (by rw [← hi, nth_eq]; simp) hs hf hr hQ (.inr ⟨hw, rfl⟩) hS h
end
theorem Apart.setCell {k : Nat} {W w : World} (h : Apart k W w) (o : Nat) (v : Value) : Apart k W (w.setCell ⟨k, o, none⟩ v) := h.setCells k o [v] (Or.inl rfl)
theorem range_whole {w : World} {b : Nat} {l : List Value} {t : TypeId} {fr : Nat × Nat} (h : w.heap[b]? = some (.cells l.toArray t fr)) : w.rangeAt b 0 l := fun j v hv => by
  rw [Nat.zero_add, cell_of_row w b j _ _ _ h]
  simpa using hv
/-- What the reference's flags keeps: its two boxes, its answer's three cells. -/
structure OwnF (n : Nat) (w : World) (xs ds : Array Value) (tx td : TypeId) (W : World) : Prop where
  below : Below n w W
  size : n + 1 + 1 + 1 + 1 ≤ W.heap.size
  hX : W.heap[n]? = some (.cells xs tx (0, 0))
  hD : W.heap[n + 1]? = some (.cells ds td (0, 0))
  v0 : W.cell? ⟨n + 1 + 1, 0, none⟩ = some (.bool false)
  v1 : W.cell? ⟨n + 1 + 1, 1, none⟩ = some (.bool false)
  v2 : W.cell? ⟨n + 1 + 1, 2, none⟩ = some (.bool false)
  z0 : W.frozen? ⟨n + 1 + 1, 0, none⟩ = false
  z1 : W.frozen? ⟨n + 1 + 1, 1, none⟩ = false
  z2 : W.frozen? ⟨n + 1 + 1, 2, none⟩ = false
theorem OwnF.keep {n : Nat} {w : World} {xs ds : Array Value} {tx td : TypeId} {W W' : World} (h : OwnF n w xs ds tx td W) (hb : Below n w W') (hs : W.heap.size ≤ W'.heap.size) (he : ∀ b, b < n + 1 + 1 + 1 → W'.heap[b]? = W.heap[b]?) : OwnF n w xs ds tx td W' := by
  have e := he (n + 1 + 1) (by omega)
  have c := fun k => World.cell?_of_block (w := W) (w' := W') (a := ⟨n + 1 + 1, k, none⟩) e
  have f := fun k => World.frozen?_of_block (w := W) (w' := W') (a := ⟨n + 1 + 1, k, none⟩) e
  exact ⟨hb, Nat.le_trans h.size hs, (he n (by omega)).trans h.hX, (he (n + 1) (by omega)).trans h.hD, (c 0).trans h.v0, (c 1).trans h.v1, (c 2).trans h.v2, (f 0).trans h.z0, (f 1).trans h.z1, (f 2).trans h.z2⟩
theorem OwnF.call {n : Nat} {w : World} {xs ds : Array Value} {tx td : TypeId} {W W' : World} (h : OwnF n w xs ds tx td W) (hn : n ≤ W.heap.size) (hb : Below W.heap.size W W') : OwnF n w xs ds tx td W' :=
  h.keep (h.below.trans (hb.mono hn)) hb.size (fun b hl => hb.block b (by have := h.size; omega))
theorem OwnF.alloc {n : Nat} {w : World} {xs ds : Array Value} {tx td : TypeId} {W : World} (h : OwnF n w xs ds tx td W) (hn : n ≤ W.heap.size) (o : Obj) : OwnF n w xs ds tx td (W.alloc o) :=
  h.call hn ((Below.refl _ _).alloc (Nat.le_refl _) _)
theorem OwnF.setCells {n : Nat} {w : World} {xs ds : Array Value} {tx td : TypeId} {W : World} (h : OwnF n w xs ds tx td W) (b o : Nat) (vs : List Value) (hb : n + 1 + 1 + 1 ≤ b) : OwnF n w xs ds tx td (W.setCells b o vs) :=
  h.keep (Below.setCells b (by omega) vs o W h.below) (by rw [(block_setCells b vs o W).1]; exact Nat.le_refl _) (fun j hj => (block_setCells b vs o W).2 j (by omega))
theorem gen_l {P : Program} {ops : Array Oper} {Q : Exit → Act → World → Prop} {rest : List Oper} {a : Act} {w : World} (R : World → Prop) (hr : R w) (h : ∀ W, R W → wpList P ops Q rest a W) : wpList P ops Q rest a w := h w hr
end Go.Proofs.YtfnjcpopadpmbaaDoor
