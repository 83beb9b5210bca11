/- How a state reads: its flat cells as numbers, its seven slices as lists; which states are right, in plain words. -/
import Derived.Test.YtbfmbgeibhkheaaBase
namespace Go.Proofs.Ytbfmbgeibhkheaa
open Go.RowKit

/-- The kind of a flat cell. -/
inductive CK where
  | u8 | u64 | bool
def CK.mk : CK → Int → Value
  | .u8, n => .int .u8 n
  | .u64, n => .int .u64 n
  | .bool, n => .bool (decide (n ≠ 0))
def CK.ok : CK → Int → Prop
  | .u8, n => 0 ≤ n ∧ n ≤ 255
  | .u64, n => 0 ≤ n ∧ n ≤ 18446744073709551615
  | .bool, n => n = 0 ∨ n = 1
def nil0 : Nat → Int := fun _ => 0
/-- The cells of a validator. -/
def valK (j : Nat) : CK := if j < 80 then .u8 else if j = 81 then .bool else .u64
def u8K (_ : Nat) : CK := .u8
def eth1K (j : Nat) : CK := if j = 32 then .u64 else .u8
/-- The flat cells of a state; none: a slice lies there. -/
def stK (k : Nat) : Option CK :=
  if k = 653 ∨ k = 719 ∨ k = 721 ∨ k = 722 ∨ k = 987 ∨ k = 988 ∨ k = 1092 ∨ 1957 ≤ k then none else
  some (if k = 0 ∨ k = 33 ∨ k = 42 ∨ k = 43 ∨ k = 44 ∨ k = 686 ∨ k = 720 ∨ (979 ≤ k ∧ k ≤ 986) ∨ k = 993 ∨ k = 1026 ∨ k = 1059 then .u64
  else if 989 ≤ k ∧ k ≤ 992 then .bool else .u8)

structure Sx where
  n : Nat → Int
  hist : List (Nat → Int)
  votes : List (Nat → Int)
  vals : List (Nat → Int)
  bals : List Int
  prev : List Int
  cur : List Int
  scores : List Int

/-- Integers that lie one behind the other. -/
structure Row (w : World) (va : Option Addr) (k : CK) (l : List Int) : Prop where
  cell : ∀ i, i < l.length → ∃ b o, va = some ⟨b, o, none⟩ ∧ w.cell? ⟨b, o + i, none⟩ = some (k.mk (l.getD i 0))
  ok : ∀ n ∈ l, k.ok n
/-- Structs of flat cells that lie one behind the other. -/
structure Rows (w : World) (va : Option Addr) (sz : Nat) (kd : Nat → CK) (l : List (Nat → Int)) : Prop where
  cell : ∀ i, i < l.length → ∃ b o, va = some ⟨b, o, none⟩ ∧ ∀ j, j < sz → w.cell? ⟨b, o + i * sz + j, none⟩ = some ((kd j).mk (l.getD i nil0 j))
  ok : ∀ f ∈ l, ∀ j, j < sz → (kd j).ok (f j)
/-- A slice of integers in the cell k. -/
def SlI (w : World) (xs : Array Value) (k : Nat) (c : CK) (l : List Int) : Prop :=
  ∃ va cap, xs[k]? = some (.slice va l.length cap) ∧ Row w va c l ∧ l.length ≤ 9223372036854775807
def SlS (w : World) (xs : Array Value) (k : Nat) (sz : Nat) (kd : Nat → CK) (l : List (Nat → Int)) : Prop :=
  ∃ va cap, xs[k]? = some (.slice va l.length cap) ∧ Rows w va sz kd l ∧ l.length ≤ 9223372036854775807
structure StRep (w : World) (xs : Array Value) (s : Sx) : Prop where
  size : xs.size = 1957
  one : ∀ v ∈ xs, v.oneCell' = true
  flat : ∀ k c, stK k = some c → xs[k]? = some (c.mk (s.n k)) ∧ c.ok (s.n k)
  hist : SlS w xs 653 32 u8K s.hist
  votes : SlS w xs 719 65 eth1K s.votes
  vals : SlS w xs 721 86 valK s.vals
  bals : SlI w xs 722 .u64 s.bals
  prev : SlI w xs 987 .u8 s.prev
  cur : SlI w xs 988 .u8 s.cur
  scores : SlI w xs 1092 .u64 s.scores

theorem StRep.u64 {w : World} {xs : Array Value} {s : Sx} (h : StRep w xs s) (k : Nat) (hk : stK k = some .u64) : xs[k]? = some (.int .u64 (s.n k)) := (h.flat k _ hk).1
theorem StRep.u64b {w : World} {xs : Array Value} {s : Sx} (h : StRep w xs s) (k : Nat) (hk : stK k = some .u64) : 0 ≤ s.n k ∧ s.n k ≤ 18446744073709551615 := (h.flat k _ hk).2

/-! Right states. -/
/-- Is the sum of these not too much? -/
def fewB (r : Int) : List Int → Bool
  | [] => true
  | n :: l => if r < n then false else fewB (r - n) l
theorem fewB_drop (r : Int) (l : List Int) (k : Nat) (h : k < l.length) : fewB r (l.drop k) = if r < l.getD k 0 then false else fewB (r - l.getD k 0) (l.drop (k + 1)) := by
  rw [List.drop_eq_getElem_cons h]
  simp [fewB, List.getD, h]
def epochB (e : Int) : Bool := e == 18446744073709551615 || decide (e < 2199023255552)
def valB (v : Nat → Int) : Bool :=
  decide (v 80 ≤ 32000000000) && v 80 % 1000000000 == 0 && epochB (v 82) && epochB (v 83) && epochB (v 84) && epochB (v 85)
def scoreB (n : Int) : Bool := decide (n ≤ 1099511627776)
def Sx.slash (s : Sx) : List Int := (List.range 8).map fun i => s.n (979 + i)
def Sx.lensB (s : Sx) : Bool :=
  decide (s.vals.length ≤ 65536) && s.bals.length == s.vals.length && s.prev.length == s.vals.length && s.cur.length == s.vals.length && s.scores.length == s.vals.length &&
  decide (s.hist.length ≤ 1024) && decide (s.votes.length ≤ 8)
def Sx.numsB (s : Sx) : Bool := decide (s.n 33 < 1099511627776) && decide (s.n 720 < 1099511627776) && decide (s.n 43 ≤ s.n 33)
def Sx.cksB (s : Sx) : Bool := decide (s.n 993 ≤ s.n 33 / 4) && decide (s.n 1026 ≤ s.n 33 / 4) && decide (s.n 1059 ≤ s.n 33 / 4)
def Sx.rightB (s : Sx) : Bool :=
  s.lensB && (s.numsB && (s.cksB && (s.vals.all valB && (s.scores.all scoreB && (fewB 144115188075855872 s.bals && fewB 144115188075855872 s.slash)))))
end Go.Proofs.Ytbfmbgeibhkheaa
namespace Go.Proofs.Ytbfmbgeibhkheaa
open Go.RowKit
theorem Row.later {w w' : World} {va : Option Addr} {k : CK} {l : List Int} (h : Row w va k l) (hb : Below w.heap.size w w') : Row w' va k l :=
  ⟨fun i hi => let ⟨b, o, e, hc⟩ := h.cell i hi; ⟨b, o, e, (hb.cell (block_lt_of_cell hc)).trans hc⟩, h.ok⟩
theorem Rows.later {w w' : World} {va : Option Addr} {sz : Nat} {kd : Nat → CK} {l : List (Nat → Int)} (h : Rows w va sz kd l) (hb : Below w.heap.size w w') : Rows w' va sz kd l :=
  ⟨fun i hi => let ⟨b, o, e, hc⟩ := h.cell i hi; ⟨b, o, e, fun j hj => (hb.cell (block_lt_of_cell (hc j hj))).trans (hc j hj)⟩, h.ok⟩
/-- The cells of a struct of flat cells. -/
def fcells (n : Nat) (kd : Nat → CK) (f : Nat → Int) : List Value := (List.range n).map fun j => (kd j).mk (f j)
theorem fcells_length (n : Nat) (kd : Nat → CK) (f : Nat → Int) : (fcells n kd f).length = n := by simp [fcells]
theorem fcells_get (n : Nat) (kd : Nat → CK) (f : Nat → Int) (j : Nat) (h : j < n) : (fcells n kd f)[j]? = some ((kd j).mk (f j)) := by
  simp [fcells, h]
theorem fcells_one (n : Nat) (kd : Nat → CK) (f : Nat → Int) : (fcells n kd f).toArray.all (·.oneCell') = true := by
  rw [Array.all_eq_true_iff_forall_mem]
  intro v hv
  have hv' : v ∈ fcells n kd f := by simpa using hv
  obtain ⟨j, _, rfl⟩ := List.mem_map.1 hv'
  cases kd j <;> rfl
theorem Rows.range {w : World} {va : Option Addr} {sz : Nat} {kd : Nat → CK} {l : List (Nat → Int)} (h : Rows w va sz kd l) (i : Nat) (hi : i < l.length) :
    ∃ b o, va = some ⟨b, o, none⟩ ∧ w.rangeAt b (o + i * sz) (fcells sz kd (l.getD i nil0)) := by
  obtain ⟨b, o, e, hc⟩ := h.cell i hi
  refine ⟨b, o, e, fun j v hv => ?_⟩
  have hj : j < sz := by
    have := (List.getElem?_eq_some_iff.1 hv).1
    simpa [fcells] using this
  rw [fcells_get _ _ _ _ hj] at hv
  rw [hc j hj, hv]
end Go.Proofs.Ytbfmbgeibhkheaa
