/- A loop's body over an iterator: what holds of an operation, a region, outside of a round holds in it. -/
/- slices.Chunk at bytes: what its iterator hands to a loop's body, one piece after the other. -/
/- ssz.Each at pieces of eight bytes. -/
import Derived.RangeFuncNested
import Derived.RangeFuncBound
import Derived.RangeFuncCalls
import Derived.RangeFuncLeaves
import Derived.RangeFuncBox
import Derived.Shelf.Abstract
import Derived.Shelf.RegionOpen
import Derived.WalkKit
import Derived.OwnWalkIn
import Derived.TacticsInMore
import Derived.LoopNIn
import Derived.LoopIn
import Derived.Maps.AppendAt
import Derived.OrdersHeld
import Derived.Test.YtihelknkcomjpaaDoorJCut
import Derived.Test.YtihelknkcomjpaaDoorJHash3
import Derived.Test.YtihelknkcomjpaaDoorJRqS
set_option linter.unusedVariables false
set_option linter.unusedSimpArgs false
set_option linter.unnecessarySimpa false
namespace Go.Proofs.YtihelknkcomjpaaDoor
open Go.RowKit Go.Shelf BigFrame
set_option maxRecDepth 100000
section
variable {P : Program} {ops : Array Oper} {Q : Exit → Act → World → Prop} {md : Region.Mode}
theorem op_round {o : Oper} {a : Act} {w : World} {K : Act → World → Prop} (l n : Nat) (hd : ∀ c, o.op ≠ .defer c) (h : o.wp P a w K Q) : o.wpIn (Fence.wide.inRound l) n P a w K Q := by
  refine ⟨fun _ _ => trivial, ?_⟩
  unfold Oper.wp at h
  have e : (Fence.wide.inRound l).round = some l := rfl
  rw [e, Oper.semAt_some l _ o hd]
  generalize (execOp a.eval o).run P w = r at *
  cases r with
  | ok x w' =>
    cases x with
    | enter f args => exact ⟨fun h => (by cases h), CallsIn.inRound l (callsIn_wide.2 h)⟩
    | row row args => exact ⟨fun h => (by cases h), fun c cs _ => let ⟨v, w2, r, s⟩ := h c cs; ⟨v, w2, r, stepsIn_wide.2 s⟩⟩
    | value v => exact h
    | skip => exact h
    | defer d => exact h
    | _ => exact h.elim
  | halt x w' => cases x <;> exact h
theorem any_round (l n : Nat) (hd : ∀ (i : Nat) (o : Oper), ops[i]? = some o → ∀ c, o.op ≠ .defer c) (hq : ¬ LetsOut Q) : ∀ (fuel : Nat) (listed : Array Bool) (a : Act) (w : World), wpAny P md ops Q fuel listed a w → wpAnyIn (Fence.wide.inRound l) n P md ops Q fuel listed a w
  | 0, listed, a, w, h => h
  | fuel + 1, listed, a, w, h => by
    refine ⟨h.1, fun i hi => ?_⟩
    have h2 := h.2 i hi
    unfold wpOp at h2
    unfold wpOpIn
    cases ho : ops[i]? with
    | none => rw [ho] at h2; exact any_round l n hd hq fuel _ _ _ h2
    | some o =>
      rw [ho] at h2
      simp only at h2 ⊢
      split at h2
      · rename_i hw
        rw [if_pos hw]
        exact Oper.wpIn_mono (fun a' w' h3 => any_round l n hd hq fuel _ _ _ h3) (op_round l n (hd i o ho) (h2.resolve_right fun h3 => hq h3.2))
      · rename_i hw
        rw [if_neg hw]
        exact ⟨fun _ _ => trivial, any_round l n hd hq fuel _ _ _ h2⟩
def noDefer (l : List Oper) : Bool := l.all fun o => match o.op with | .defer _ => false | _ => true
theorem noDefer_is {l : List Oper} (h : noDefer l = true) : ∀ (i : Nat) (o : Oper), l.toArray[i]? = some o → ∀ c, o.op ≠ .defer c := fun i o ho c e => by
  have h1 := List.all_eq_true.1 h o (List.mem_of_getElem? (by simpa using ho))
  rw [e] at h1
  cases h1
/-- A region that draws its order, in a round. -/
theorem round_region_held {S : World → Prop} {l : List Oper} (r n : Nat) {id : Nat} {a : Act} {w : World} (hm : P.follows .mixedOrders = true) (hd : noDefer l = true) (hq : ¬ LetsOut Q)
    (h : wpAnyH P .any l.toArray Q S l.toArray.size (Array.replicate l.toArray.size false) a { w with drawn := w.drawn + 1 }) : (Code.region id l.toArray true).wpIn (Fence.wide.inRound r) n P Q a w :=
  wpIn_region_any hm (any_round r n (noDefer_is hd) hq _ _ _ _ (wpAny_of_held _ _ _ _ h))
end
end Go.Proofs.YtihelknkcomjpaaDoor
namespace Go.Proofs.YtihelknkcomjpaaDoor
open Go.RowKit Go.Shelf BigFrame
set_option maxRecDepth 100000
attribute [local go_sem] Oper.semAt_some
/-- The blocks below n₀ and two boxes stay. -/
structure KeepC (n₀ B1 B2 : Nat) (W W' : World) : Prop where
  below : Below n₀ W W'
  b1 : W.heap[B1]? = W'.heap[B1]?
  b2 : W.heap[B2]? = W'.heap[B2]?
theorem KeepC.refl (n₀ B1 B2 : Nat) (W : World) : KeepC n₀ B1 B2 W W := ⟨Below.refl _ _, rfl, rfl⟩
theorem KeepC.trans {n₀ B1 B2 : Nat} {A B C : World} (h : KeepC n₀ B1 B2 A B) (k : KeepC n₀ B1 B2 B C) : KeepC n₀ B1 B2 A C := ⟨h.below.trans k.below, h.b1.trans k.b1, h.b2.trans k.b2⟩
/-- The numbers of the rounds so far. -/
def uptoN (k j : Nat) : List (Fin k) := (List.finRange k).take j
theorem uptoN_succ {k j : Nat} (h : j < k) : uptoN k (j + 1) = uptoN k j ++ [⟨j, h⟩] := by
  unfold uptoN
  rw [List.take_add_one, List.getElem?_eq_getElem (by simpa using h)]
  simp
theorem uptoN_length {k j : Nat} (h : j ≤ k) : (uptoN k j).length = j := by simp [uptoN]; omega
theorem uptoN_get {k j i : Nat} (hj : j ≤ k) (h : i < j) : (uptoN k j)[i]? = some ⟨i, by omega⟩ := by
  unfold uptoN
  rw [List.getElem?_take_of_lt h, List.getElem?_eq_getElem (by simp; omega)]
  simp
def chunkV (b off x : Nat) : Value := .slice (some ⟨b, off + 8 * x, none⟩) 8 8
theorem run_min8 {ρ : Operand → Value} {o : Oper} (w : World) (x y : Operand) (ho : o.op = .call { callee := .builtin .min, args := #[x, y], argTypes := #[3, 3] }) (m : Nat) (hx : ρ x = .int .i64 8) (hy : ρ y = .int .i64 (m : Int)) (hm : 8 ≤ m) : (execOp ρ o).run Tryd.prog w = .ok (.value (.int .i64 8)) w := by
  have h1 : ¬ ((m : Int) < 8) := by omega
  unfold execOp
  simp [ho, go_sem, hx, hy, Builtin.min_, Builtin.min2, h1]
set_option maxHeartbeats 4000000 in
theorem chunk1_in (n : Nat) (l B1 B2 n₀ b off k cap : Nat) (va : Option Addr) (hva : 0 < k → va = some ⟨b, off, none⟩) (hk : k ≤ 100000) (hcap : 8 * k ≤ cap) (J Jx : List (Fin k) → World → Prop) (Bj : Nat) (hJ : AbidesFrom Bj J)
    (hY : ∀ pre x W, J pre W → pre.length < k → YieldAt Fence.wide (n - 1) Tryd.prog l #[chunkV b off x.1] W fun e W' =>
      (e = .returned (.bool true) ∧ J (pre ++ [x]) W' ∧ KeepC n₀ B1 B2 W W') ∨ (e = .returned (.bool false) ∧ Jx (pre ++ [x]) W'))
    (W : World) (hB1 : W.cell? ⟨B1, 0, none⟩ = some (.slice va (8 * k) cap)) (hB2 : W.cell? ⟨B2, 0, none⟩ = some (.int .i64 8)) (h0 : J [] W) :
    CallsIn Fence.wide n Tryd.prog 133 #[.func (.yield l) #[] #[], .pointer (some ⟨B1, 0, none⟩), .pointer (some ⟨B2, 0, none⟩)] W fun e W' => (∃ v, e = .returned v) ∧
      ((∃ ys, ys = uptoN k k ∧ J ys W') ∨ (∃ pre, (∃ j, j ≤ k ∧ pre = uptoN k j) ∧ Jx pre W')) := by
  refine callsIn_of_wp Tryd.func133 rfl trivial ?_ rfl
  simp only [Tryd.ntmps133, List.size_toArray, List.length_cons, List.length_nil, Nat.reduceAdd, Nat.reduceSub, Array.replicate_succ, Array.replicate_zero, List.push_toArray, List.append_toArray, List.nil_append, List.cons_append]
  gi_wp2
  gi_loopw [4] (fun i wr => ∃ j : Nat, j ≤ k ∧ i = .int .i64 ((8 * j : Nat) : Int) ∧ J (uptoN k j) wr ∧ KeepC n₀ B1 B2 W wr)
    (fun i _ => 8 * k - (intOf i).toNat)
  case atStart => exact ⟨0, Nat.zero_le _, rfl, h0, KeepC.refl _ _ _ _⟩
  case round =>
    obtain ⟨j, hj, rfl, hJs, hnx⟩ := hrel
    have hc1 : wr.cell? ⟨B1, 0, none⟩ = some (.slice va (8 * k) cap) := (World.cell?_of_block (w := W) hnx.b1.symm).trans hB1
    have hc2 : wr.cell? ⟨B2, 0, none⟩ = some (.int .i64 8) := (World.cell?_of_block (w := W) hnx.b2.symm).trans hB2
    by_cases hlt : j < k
    · obtain rfl := hva (by omega)
      have l1 : ((8 * j : Nat) : Int) < ((8 * k : Nat) : Int) := by omega
      have hrg : ∀ b' : Nat, 8 * j + 8 ≤ 8 * k := fun _ => by omega
      gi_wp2
      refine wpIn_wide.2 ?_
      refine wp_region_held (S := fun w' => w'.cell? ⟨B1, 0, none⟩ = some (.slice (some ⟨b, off, none⟩) (8 * k) cap) ∧ w'.cell? ⟨B2, 0, none⟩ = some (.int .i64 8)) (by kernel_rfl) ?_
      have hS : ({ wr with drawn := wr.drawn + 1 } : World).cell? ⟨B1, 0, none⟩ = some (.slice (some ⟨b, off, none⟩) (8 * k) cap) ∧ ({ wr with drawn := wr.drawn + 1 } : World).cell? ⟨B2, 0, none⟩ = some (.int .i64 8) := ⟨hc1, hc2⟩
      refine takeL (i := 0) (v := (.int .i64 8)) rfl (by kernel_rfl) (by kernel_rfl) (by kernel_rfl) (fun _ _ _ h => h) rfl (by assumption) (fun w' hS' => run_load_cell _ 3 _ (by rfl) ⟨B2, 0, none⟩ (by rfl) _ hS'.2 _ Tryd.underlying3 rfl) ?_
      simp only [Act.put, List.setIfInBounds_toArray, List.set_cons_zero, List.set_cons_succ]
      refine takeL (i := 1) (v := (.slice (some ⟨b, off, none⟩) (8 * k) cap)) rfl (by kernel_rfl) (by kernel_rfl) (by kernel_rfl) (fun _ _ _ h => h) rfl (by assumption) (fun w' hS' => run_load_cell _ 34 _ (by rfl) ⟨B1, 0, none⟩ (by rfl) _ hS'.1 _ Tryd.underlying34 rfl) ?_
      simp only [Act.put, List.setIfInBounds_toArray, List.set_cons_zero, List.set_cons_succ]
      refine takeL (i := 2) (v := (.int .i64 ((8 * j : Nat) : Int))) rfl (by kernel_rfl) (by kernel_rfl) (by kernel_rfl) (fun _ _ _ h => h) rfl (by assumption) (fun w' hS' => by go_simp) ?_
      simp only [Act.put, List.setIfInBounds_toArray, List.set_cons_zero, List.set_cons_succ]
      refine takeL (i := 3) (v := (.slice (some ⟨b, off + 8 * j, none⟩) (8 * k - 8 * j) (cap - 8 * j))) rfl (by kernel_rfl) (by kernel_rfl) (by kernel_rfl) (fun _ _ _ h => h) rfl (by assumption) (fun w' hS' => run_slice_from w' 34 5 _ _ (by rfl) Tryd.underlying34 1 sz_u8 b off (8 * k) cap (8 * j) (by rfl) (by rfl) (by omega) (by omega) (off + 8 * j) (by omega)) ?_
      simp only [Act.put, List.setIfInBounds_toArray, List.set_cons_zero, List.set_cons_succ]
      refine takeL (i := 4) (v := (.int .i64 ((8 * k - 8 * j : Nat) : Int))) rfl (by kernel_rfl) (by kernel_rfl) (by kernel_rfl) (fun _ _ _ h => h) rfl (by assumption) (fun w' hS' => by go_simp) ?_
      simp only [Act.put, List.setIfInBounds_toArray, List.set_cons_zero, List.set_cons_succ]
      refine takeL (i := 5) (v := (.int .i64 8)) rfl (by kernel_rfl) (by kernel_rfl) (by kernel_rfl) (fun _ _ _ h => h) rfl (by assumption) (fun w' hS' => run_min8 w' _ _ (by rfl) (8 * k - 8 * j) (by rfl) (by rfl) (by omega)) ?_
      simp only [Act.put, List.setIfInBounds_toArray, List.set_cons_zero, List.set_cons_succ]
      refine takeL (i := 6) (v := (.int .i64 8)) rfl (by kernel_rfl) (by kernel_rfl) (by kernel_rfl) (fun _ _ _ h => h) rfl (by assumption) (fun w' hS' => by go_simp) ?_
      simp only [Act.put, List.setIfInBounds_toArray, List.set_cons_zero, List.set_cons_succ]
      refine wpAnyH_done (by kernel_rfl) ?_ _
      simp only [Exit.then]
      rename_i K hK
      refine hK _ _ ?_
      clear hK K
      obtain ⟨W1, hW1⟩ : ∃ W1, W1 = ({ wr with drawn := wr.drawn + 1 } : World) := ⟨_, rfl⟩
      have hJ1 : J (uptoN k j) W1 := hJ _ wr _ none hJs (by subst hW1; exact ⟨rfl, rfl, rfl, Nat.le_refl _, fun _ _ _ => rfl⟩) (fun r e => by cases e)
      have hk1 : KeepC n₀ B1 B2 W W1 := hnx.trans (by subst hW1; exact ⟨(Below.refl _ _).drew, rfl, rfl⟩)
      have hc3 : W1.cell? ⟨B1, 0, none⟩ = some (.slice (some ⟨b, off, none⟩) (8 * k) cap) := (World.cell?_of_block (w := W) hk1.b1.symm).trans hB1
      rw [← hW1]
      clear hS hc1 hc2 hW1 hnx hJs
      obtain ⟨fn, tmps, assign, body, hy, hR⟩ := hY _ ⟨j, hlt⟩ W1 hJ1 (by rw [uptoN_length hj]; exact hlt)
      unfold chunkV at hy
      have e8 : IntKind.i64.wrap (((8 * j : Nat) : Int) + 8) = ((8 * j + 8 : Nat) : Int) := by rw [IntKind.wrap_i64]; omega
      have l2 : ((8 * j + 8 : Nat) : Int) ≤ (cap : Int) := by omega
      have l3 : (0 : Int) ≤ ((8 * j : Nat) : Int) := by omega
      have l4 : ((8 * j : Nat) : Int) ≤ ((8 * j + 8 : Nat) : Int) := by omega
      gi_wp2
      refine ⟨fun h => (by cases h), hR.mono ?_⟩
      rintro e W3 (⟨rfl, hJ3, hk3⟩ | ⟨rfl, hJx3⟩)
      · have hk4 := hk1.trans hk3
        have hc5 : W3.cell? ⟨B1, 0, none⟩ = some (.slice (some ⟨b, off, none⟩) (8 * k) cap) := (World.cell?_of_block (w := W) hk4.b1.symm).trans hB1
        have hc6 : W3.cell? ⟨B2, 0, none⟩ = some (.int .i64 8) := (World.cell?_of_block (w := W) hk4.b2.symm).trans hB2
        gi_wp2
        go_roundw
        case rel => exact ⟨j + 1, by omega, by simp; omega, by rw [uptoN_succ hlt]; exact hJ3, hk4⟩
        case measure => simp [intOf]; omega
      · gi_wp2
        refine bodyPost_ret (results_none rfl _ _ _) rfl ?_
        exact ⟨⟨_, rfl⟩, .inr ⟨_, ⟨j + 1, by omega, (uptoN_succ hlt).symm⟩, hJx3⟩⟩
    · obtain rfl : j = k := by omega
      gi_wp2
      go_end0
      exact ⟨⟨_, rfl⟩, .inl ⟨_, rfl, hJs⟩⟩
theorem chunk_stops (n : Nat) (B1 B2 n₀ b off k cap : Nat) (va : Option Addr) (hva : 0 < k → va = some ⟨b, off, none⟩) (hk : k ≤ 100000) (hcap : 8 * k ≤ cap) (w : World) (h1 : w.cell? ⟨B1, 0, none⟩ = some (.slice va (8 * k) cap)) (h2 : w.cell? ⟨B2, 0, none⟩ = some (.int .i64 8)) (l1 : B1 < w.heap.size) (l2 : B2 < w.heap.size) :
    SeqStopsK Fence.wide n Tryd.prog 133 #[.pointer (some ⟨B1, 0, none⟩), .pointer (some ⟨B2, 0, none⟩)] (fun x : Fin k => #[chunkV b off x.1]) (KeepC n₀ B1 B2) (fun ys => ys = uptoN k k) (fun pre => ∃ j, j ≤ k ∧ pre = uptoN k j) k w := fun l J Jx W hW hJ _ hY h0 =>
  chunk1_in n l B1 B2 n₀ b off k cap va hva hk hcap J Jx _ hJ hY W ((hW.cell (p := ⟨B1, 0, none⟩) l1).trans h1) ((hW.cell (p := ⟨B2, 0, none⟩) l2).trans h2) h0
set_option maxHeartbeats 1000000 in
theorem schunk_any (va : Option Addr) (len cap : Nat) (w : World) :
    Calls Tryd.prog 114 #[.slice va len cap, .int .i64 8] w fun e w' => e = .returned (.func (.func (133)) #[] #[.pointer (some ⟨w.heap.size, 0, none⟩), .pointer (some ⟨w.heap.size + 1, 0, none⟩)]) ∧ w' = (w.alloc (.cells #[.slice va len cap] 34)).alloc (.cells #[.int .i64 8] 3) := by
  go_enter Tryd.func114, Tryd.ntmps114
  go_wp2
  exact ret_t1 rfl _ rfl rfl ⟨rfl, rfl⟩
theorem run_eql_nil (a : Addr) (n c : Nat) (w : World) : (binOp BinOp.eql 34 (.slice (some a) n c) (.slice none 0 0)).run Tryd.prog w = .ok (.bool false) w := by kernel_rfl
set_option maxHeartbeats 1000000 in
theorem sclone_any (l : List Int) (k : Nat) (hk0 : 0 < k) (hk : l.length = k) (b o c : Nat) (w : World) (hr0 : Row w (some ⟨b, o, none⟩) .u8 l) (hfew : k ≤ 70368744170000) :
    Calls Tryd.prog 115 #[.slice (some ⟨b, o, none⟩) k c] w fun e w' => ∃ v, e = .returned v ∧ ∃ g c', v = .slice (some ⟨g, 0, none⟩) k c' ∧ k ≤ c' ∧ w.heap.size ≤ g ∧ g < w'.heap.size ∧ Row w' (some ⟨g, 0, none⟩) .u8 l ∧ Below w.heap.size w w' := by
  subst hk
  have hr := Lib.hid hr0
  clear hr0
  go_enter Tryd.func115, Tryd.ntmps115
  have heq := fun w => run_eql_nil ⟨b, o, none⟩ l.length c w
  go_wp2_with (first
    | ((with_reducible refine at_bslice 34 ?_); go_loud (refine wpList_plain rfl fun K hK => wp_build0 rfl (hK _ _ ?_)); clear hK K)
    | ((with_reducible refine at_app 34 ?_); refine wpList_app (w0 := w) rfl _ _ rfl w.heap.size [] l _ rfl (OwnB.new (Nat.le_refl _) [] (by decide) (heap_new _ _ _ _ rfl)) (some ⟨b, o, none⟩) c rfl (hr.out.later ((Below.refl _ _).alloc (Nat.le_refl _) _)) (by simp; omega) (by simp) (fun h => by cases h) ((Below.refl _ _).alloc (Nat.le_refl _) _) (fun v1 W1 h1 b1 z1 => ?_)
       rw [List.nil_append] at h1
       have hh := Lib.hid h1
       have bb := Lib.hid b1
       clear h1 b1 z1))
  have h1 := hh.out
  obtain ⟨va, c', e, hrow, hc⟩ := h1.row hr.out.ok
  subst e
  obtain ⟨g, o', e, hcell⟩ := hrow.cell 0 hk0
  subst e
  rcases h1.2 with ⟨h2, _⟩ | ⟨g2, cap, cur, h2, h3, h4, _⟩
  · cases h2
  · injection h2 with e1 e2 e3
    injection e1 with e1
    injection e1 with e1 e4 e5
    subst e1
    subst e4
    exact ret_t1 rfl _ rfl rfl ⟨_, rfl, g, c', rfl, hc, h3, block_lt h4, hrow, bb.out⟩
end Go.Proofs.YtihelknkcomjpaaDoor
namespace Go.Proofs.YtihelknkcomjpaaDoor
open Go.RowKit Go.Shelf BigFrame
set_option maxRecDepth 100000
attribute [local go_sem] Oper.semAt_some
theorem OutI.congr {base k : Nat} {v : Value} {p q : Nat → List Int} {W : World} (h : OutI base k v p W) (he : ∀ i, i < k → p i = q i) : OutI base k v q W := by
  obtain ⟨vs, h1, h2, h3⟩ := h
  refine ⟨vs, h1, h2, fun i hi => ?_⟩
  rw [← he i hi]
  exact h3 i hi
/-- It lies on where no block of cells has turned. -/
theorem OutI.kept {base k : Nat} {v : Value} {p : Nat → List Int} {A B : World} {row : Option Nat} (h : OutI base k v p A) (hp : ∀ i, i < k → 0 < (p i).length) (hg : A.grownBy B row) (hr : ∀ r, row = some r → ∃ o : Obj, A.heap[r]? = some o ∧ o.isCells = false) : OutI base k v p B := by
  obtain ⟨vs, h1, h2, h3⟩ := h
  have hne : ∀ b cs t fr, A.heap[b]? = some (.cells cs t fr) → some b ≠ row := fun b cs t fr hb e => by
    obtain ⟨o, ho, hc⟩ := hr b e.symm
    rw [hb] at ho
    cases ho
    cases hc
  refine ⟨vs, ?_, h2, fun i hi => ?_⟩
  · refine h1.kept hg ?_
    rcases h1.2 with ⟨rfl, _⟩ | ⟨g, cap, cur, rfl, _, hgb, _⟩
    · exact .inl rfl
    · exact .inr fun e' => hne g _ _ _ hgb (by simpa [Value.ownBlock] using e')
  · obtain ⟨b, o, ci, h4, h5, h6, h7, h8⟩ := h3 i hi
    refine ⟨b, o, ci, h4, ⟨fun j hj => ?_, h5.ok⟩, h6, Nat.lt_of_lt_of_le h7 hg.size, h8⟩
    obtain ⟨b', o', e, hc⟩ := h5.cell j hj
    exact ⟨b', o', e, cell_kept hc hg hr⟩
/-- A store into one other block. -/
theorem OutI.apart {base k b : Nat} {v : Value} {p : Nat → List Int} {A B : World} (h : OutI base k v p A) (hx : Apart b A B) (hb : b < base) : OutI base k v p B := by
  obtain ⟨vs, h1, h2, h3⟩ := h
  refine ⟨vs, own_apart h1 hx hb, h2, fun i hi => ?_⟩
  obtain ⟨b', o, ci, h4, h5, h6, h7, h8, h9⟩ := h3 i hi
  refine ⟨b', o, ci, h4, ⟨fun j hj => ?_, h5.ok⟩, h6, Nat.lt_of_lt_of_le h7 hx.size, h8, h9⟩
  obtain ⟨b2, o2, e, hc⟩ := h5.cell j hj
  cases e
  exact ⟨b', o, rfl, (World.cell?_of_block (w := A) (hx.block b' h7 (by omega))).trans hc⟩
theorem hkb_c {n₀ B1 B2 : Nat} {w : World} (h0 : n₀ ≤ w.heap.size) (h1 : B1 < w.heap.size) (h2 : B2 < w.heap.size) (W : World) (l : Nat) (o o' : Obj) (hl : w.heap.size ≤ l) (ho : W.heap[l]? = some o) (hc : o.isCells = false) (hw : o.isWalk = false) : KeepC n₀ B1 B2 W (W.putObj l o') :=
  ⟨belowK_b (w := w) h0 W l o o' hl ho hc hw, (World.putObj_heap_other (by omega)).symm, (World.putObj_heap_other (by omega)).symm⟩
/-- The piece of one round. -/
def pieceAt {k : Nat} (l : List Int) (pre : List (Fin k)) (i : Nat) : List Int := match pre[i]? with
  | some x => (l.drop (8 * x.1)).take 8
  | none => []
theorem pieceAt_old {k : Nat} (l : List Int) (pre : List (Fin k)) (x : Fin k) (i : Nat) (h : i < pre.length) : pieceAt l pre i = pieceAt l (pre ++ [x]) i := by
  unfold pieceAt
  rw [List.getElem?_append_left h]
theorem pieceAt_new {k : Nat} (l : List Int) (pre : List (Fin k)) (x : Fin k) : pieceAt l (pre ++ [x]) pre.length = (l.drop (8 * x.1)).take 8 := by
  unfold pieceAt
  simp
theorem pieceAt_len {k : Nat} {l : List Int} (hl : l.length = 8 * k) (pre : List (Fin k)) (i : Nat) (h : i < pre.length) : (pieceAt l pre i).length = 8 := by
  unfold pieceAt
  rw [List.getElem?_eq_getElem h]
  have := (pre[i]).2
  simp only [List.length_take, List.length_drop]
  omega
theorem sz_bss : (Tryd.prog.info? 96).map (·.size) = some 1 := by kernel_rfl
theorem run_bslice_bs {ρ : Operand → Value} {o : Oper} (w : World) (parts : Array (Nat × Operand)) (ho : o.op = .buildSlice 96 1 parts) (va : Option Addr) (n c : Nat) (hp : (parts.toList.map fun p => (p.1, ρ p.2)) = [(0, .slice va n c)]) :
    (execOp ρ o).run Tryd.prog w = .ok (.value (.slice (some ⟨w.heap.size, 0, none⟩) 1 1)) (w.alloc (.cells #[.slice va n c] 34)) :=
  run_buildSlice w 96 34 1 parts ho Tryd.underlying96 (.slice none 0 0) 1 info_bs2 (by decide) (by decide) [.slice va n c] rfl hp (fun u hu => by rw [List.mem_singleton.1 hu]; rfl)
set_option maxHeartbeats 8000000 in
theorem each_any (l : List Int) (k : Nat) (hk : k ≤ 64) (hl0 : l.length = 8 * k) (va : Option Addr) (c : Nat) (w : World) (hs0 : SlB va c l w) :
    Calls Tryd.prog 76 #[.slice va (8 * k) c, .int .i64 8, .int .i64 64] w fun e w' => (∃ v, e = .returned (.tuple #[v, .int .i64 0]) ∧ OutI (w.heap.size + 1 + 1 + 1) k v (fun i => (l.drop (8 * i)).take 8) w') ∧ Below w.heap.size w w' := by
  obtain ⟨b, off, hva⟩ : ∃ b off, 0 < k → va = some ⟨b, off, none⟩ := by
    by_cases h : 0 < k
    · obtain ⟨b, o, e, _⟩ := hs0.row.cell 0 (by omega)
      exact ⟨b, o, fun _ => e⟩
    · exact ⟨0, 0, fun h2 => absurd h2 h⟩
  have hs := Lib.hid hs0
  have hl := Lib.hid hl0
  have hcap : 8 * k ≤ c := by rw [← hl0]; exact hs0.cap
  have hva' := Lib.hid hva
  have t1 : (8 * (k : Int)).tmod 8 = 0 := Int.mul_tmod_right _ _
  have t2 : (8 * (k : Int)).tdiv 8 = (k : Int) := Int.mul_tdiv_cancel_left _ (by decide)
  have t3 : decide (64 < (k : Int)) = false := by simp; omega
  clear hs0 hl0 hva
  refine (callsIn_wide (n := 3)).1 ?_
  refine callsIn_of_wp_marks Tryd.func76 rfl trivial ?_ rfl
  simp only [Tryd.ntmps76, List.size_toArray, List.length_cons, List.length_nil, Nat.reduceAdd, Nat.reduceSub, Array.replicate_succ, Array.replicate_zero, List.push_toArray, List.append_toArray, List.nil_append, List.cons_append]
  gi_wp2_with (refine ⟨trivial, ?_⟩; gi_at_call 114; refine (callsIn_wide.2 (schunk_any _ _ _ _)).mono ?_; rintro e w' ⟨rfl, rfl⟩)
  have b1 := Boxed.new (w.alloc (.cells #[.slice none 0 0] 96)) 34 (.slice va (8 * k) c)
  have b2 := Boxed.new ((w.alloc (.cells #[.slice none 0 0] 96)).alloc (.cells #[.slice va (8 * k) c] 34)) 3 (.int .i64 8)
  have b0 := Boxed.new w 96 (.slice none 0 0)
  simp only [World.size_alloc] at b1 b2
  have b1' := b1.alloc (.cells #[.int .i64 8] 3)
  have b0' := (b0.alloc (.cells #[.slice va (8 * k) c] 34)).alloc (.cells #[.int .i64 8] 3)
  have hB0 : Below w.heap.size w (((w.alloc (.cells #[.slice none 0 0] 96)).alloc (.cells #[.slice va (8 * k) c] 34)).alloc (.cells #[.int .i64 8] 3)) := ((((Below.refl _ w).alloc (Nat.le_refl _) _).alloc (by simp) _).alloc (by simp; omega) _)
  have hz2 : (((w.alloc (.cells #[.slice none 0 0] 96)).alloc (.cells #[.slice va (8 * k) c] 34)).alloc (.cells #[.int .i64 8] 3)).heap.size = w.heap.size + 1 + 1 + 1 := by simp
  clear b0 b1
  generalize ((w.alloc (.cells #[.slice none 0 0] 96)).alloc (.cells #[.slice va (8 * k) c] 34)).alloc (.cells #[.int .i64 8] 3) = w2 at *
  refine wpIn_rangeFunc_ownG (F := Fence.wide) rfl (by decide) (gf := 133) (lb := #[.pointer (some ⟨w.heap.size + 1, 0, none⟩), .pointer (some ⟨w.heap.size + 1 + 1, 0, none⟩)]) rfl trivial (enters_of Tryd.func133 (by kernel_rfl) rfl)
    (chunk_stops 2 (w.heap.size + 1) (w.heap.size + 1 + 1) w.heap.size b off k c va hva'.out (by omega) hcap w2 b1'.cell b2.cell b1'.lt b2.lt) KeepC.trans (hkb_c (by omega) (by omega) (by omega)) (Below.refl _ _) (fun _ => rfl)
    (fun pre W => (∃ v, Boxed W w.heap.size 96 v ∧ OutI (w.heap.size + 1 + 1 + 1) pre.length v (pieceAt l pre) W) ∧ Below w.heap.size w W ∧ w.heap.size + 1 + 1 + 1 ≤ W.heap.size)
    (fun _ _ _ => False)
    ?own
    (fun _ _ _ _ _ hs _ _ => hs)
    ⟨⟨_, b0', OutI.nil _ _ _⟩, hB0, by omega⟩
    (fun x => { tmps := #[.slice va (8 * k) c, .int .i64 8, .int .i64 64, undef, undef, undef, .slice none 0 0, .int .i64 0, .pointer (some ⟨w.heap.size, 0, none⟩), chunkV b off x.1, .bool false, .int .i64 8, .bool false, .bool false, .int .i64 64, .bool false, .bool false, .bool false, .slice va (8 * k) c, .int .i64 (8 * (k : Int)), .int .i64 8, .int .i64 0, .bool false, .bool false, .slice va (8 * k) c, .int .i64 (8 * (k : Int)), .int .i64 8, .int .i64 (k : Int), .int .i64 64, .bool false, .slice va (8 * k) c, .int .i64 8, .func (.func (133)) #[] #[.pointer (some ⟨w.heap.size + 1, 0, none⟩), .pointer (some ⟨w.heap.size + 1 + 1, 0, none⟩)], chunkV b off x.1, undef, undef, undef, undef, undef, undef], defers := [] }) ?assign ?body ?done ?stop
  case own =>
    rintro pre A B row ⟨⟨v, hv, hO⟩, hB, hsz⟩ hg hr
    refine ⟨⟨v, hv.kept hg (fun e => ?_), hO.kept (fun i hi => by rw [pieceAt_len hl.out pre i hi]; decide) hg (fun r e => (hr r e).2)⟩, hB.grown hg (by omega) (fun r e => by have := (hr r e).1; omega), Nat.le_trans hsz hg.size⟩
    obtain ⟨_, o, ho, hc⟩ := hr _ e.symm
    have h2 := (show A.heap[w.heap.size]? = _ from hv).symm.trans ho
    cases h2
    cases hc
  case assign =>
    intro l x W K hK
    gi_wp2
    exact hK
  case body =>
    rintro r pre x W ⟨⟨v, hv, hO⟩, hB, hsz⟩ hlt
    obtain ⟨vo, co, rfl⟩ := hO.form
    have hx := x.2
    have hrow : Row w (some ⟨b, off + 8 * x.1, none⟩) .u8 ((l.drop (8 * x.1)).take 8) := row_mid (by rw [← hva'.out (by omega)]; exact hs.out.row) (8 * x.1) 8 (by rw [hl.out]; omega)
    have hpl : ((l.drop (8 * x.1)).take 8).length = 8 := by rw [List.length_take, List.length_drop, hl.out]; omega
    have hold := fun i => pieceAt_old l pre x i
    have hnew := pieceAt_new l pre x
    have hplp := fun i h => pieceAt_len hl.out pre i h
    clear hva' hl hs
    generalize (l.drop (8 * x.1)).take 8 = q at *
    gi_wp2
    unfold chunkV
    refine round_region_held (S := fun _ => True) r _ (by kernel_rfl) (by kernel_rfl) (fun ⟨_, _, h⟩ => h) ?_
    have hS : True := trivial
    refine takeL (i := 1) (v := (.slice (some ⟨b, off + 8 * x.1, none⟩) 8 8)) rfl (by kernel_rfl) (by kernel_rfl) (by kernel_rfl) (fun _ _ _ h => h) rfl (by assumption) (fun w' hS' => by go_simp) ?_
    simp only [Act.put, List.setIfInBounds_toArray, List.set_cons_zero, List.set_cons_succ]
    refine twoL (i := 0) (k := 2) rfl rfl (by kernel_rfl) rfl rfl ?_ ?_
    · refine wp_ran _ (run_load_cell _ 96 _ (by rfl) ⟨w.heap.size, 0, none⟩ (by rfl) _ hv.cell _ Tryd.underlying96 rfl) ⟨trivial, ?_⟩
      simp only [Act.put, List.setIfInBounds_toArray, List.set_cons_zero, List.set_cons_succ]
      refine oneL (i := 2) rfl (by kernel_rfl) rfl (wp_callE 115 #[.slice (some ⟨b, off + 8 * x.1, none⟩) 8 8] (by go_simp) _ (sclone_any q 8 (by decide) hpl b (off + 8 * x.1) 8 { W with drawn := W.drawn + 1 } (hrow.later hB.drew) (by decide)) ?_)
      rintro v2 W3 ⟨g, c', rfl, hcc, hgz, hgl, hrw, hb⟩
      refine ⟨trivial, ?_⟩
      simp only [Act.put, List.setIfInBounds_toArray, List.set_cons_zero, List.set_cons_succ]
      have hb3 : Below W.heap.size W W3 := (Below.refl _ _).drew.trans hb
      have z3 := hb3.size
      refine oneL (i := 3) rfl (by kernel_rfl) rfl (wp_ran _ (run_bslice_bs W3 _ (by rfl) (some ⟨g, 0, none⟩) 8 c' (by rfl)) ⟨trivial, ?_⟩)
      simp only [Act.put, List.setIfInBounds_toArray, List.set_cons_zero, List.set_cons_succ]
      obtain ⟨vs, hvs, g2, g3⟩ := hO
      have hb4 : Below W.heap.size W (W3.alloc (.cells #[.slice (some ⟨g, 0, none⟩) 8 c'] 34)) := hb3.alloc z3 _
      have hlt2 := World.ownsRow.lt hvs
      refine oneL (i := 4) rfl (by kernel_rfl) rfl (wp_appS (w0 := W3.alloc (.cells #[.slice (some ⟨g, 0, none⟩) 8 c'] 34)) (n0 := w.heap.size + 1 + 1 + 1) (.tmp 34) (.tmp 37) 96 34 rfl Tryd.underlying96 (.slice none 0 0) 1 24 info_bs rfl (by decide) (w.heap.size + 1 + 1 + 1) pre.length (.slice vo pre.length co) vs rfl (own_later hvs hb4) ⟨W3.heap.size, 0, none⟩ 1 1 rfl [.slice (some ⟨g, 0, none⟩) 8 c'] rfl (range_whole (heap_new _ _ _ _ rfl)) rfl (by simp [Value.oneCell']) (by omega) (by omega) (by rw [World.size_alloc]; omega) (Nat.le_refl _) (Below.refl _ _) (fun v5 W5 h5 b5 z5 o5 q5 => ⟨trivial, ?_⟩))
      obtain ⟨va5, c5, e5, _⟩ := own_form h5
      subst e5
      have z5b := b5.size
      rw [World.size_alloc] at z5b
      have b5w := (hb4.mono hsz).trans b5
      simp only [Act.put, List.setIfInBounds_toArray, List.set_cons_zero, List.set_cons_succ]
      refine oneL (i := 5) rfl (by kernel_rfl) rfl (wp_store1 96 _ _ rfl w.heap.size 0 rfl _ rfl rfl sz_bss #[.slice vo pre.length co] 96 ((b5w.block _ (by omega)).trans hv) (by simp) (fun W6 hC6 hx6 => ⟨trivial, ?_⟩))
      refine wpAnyH_done (by kernel_rfl) ?_ _
      have hst : OutI (w.heap.size + 1 + 1 + 1) (pre.length + 1) (.slice va5 (pre.length + 1) c5) (pieceAt l (pre ++ [x])) W5 := OutI.step (W := W3.alloc (.cells #[.slice (some ⟨g, 0, none⟩) 8 c'] 34)) g2 (fun i hi => by
        obtain ⟨b', o', ci, h4, h6, h7, h8, h9, h10⟩ := g3 i hi
        rw [← hold i hi]
        exact ⟨b', o', ci, h4, h6.later hb4, h7, Nat.lt_of_lt_of_le h8 hb4.size, h9, h10⟩) (b := g) (c := c') (Nat.le_trans hsz hgz) (by rw [hnew]; exact hrw.later ((Below.refl _ _).alloc (Nat.le_refl _) _)) (by rw [hnew, hpl]; exact hcc) (by rw [World.size_alloc]; omega) (fun e => by have := (hlt2 _ e).2; have h11 : W.heap.size ≤ g := hgz; omega) (by rw [hnew, hpl]; exact h5) o5 q5 (by rw [World.size_alloc]; exact z5b)
      have hbw : Below w.heap.size W W6 := hx6.below (b5w.mono (by omega)) (Nat.le_refl _) (by omega)
      refine ⟨⟨hbw.size, fun j o hj hjo hc => ?_⟩, ⟨hbw, ((hx6.block (w.heap.size + 1) (by omega) (by omega)).trans (b5w.block _ (by omega))).symm, ((hx6.block (w.heap.size + 1 + 1) (by omega) (by omega)).trans (b5w.block _ (by omega))).symm⟩, ⟨⟨.slice va5 (pre.length + 1) c5, ?_, ?_⟩, hB.trans hbw, Nat.le_trans hsz hbw.size⟩⟩
      · have hjl := (Array.getElem?_eq_some_iff.1 hjo).1
        refine ((hx6.block j (by omega) (by omega)).trans ((o5 j (by rw [World.size_alloc]; omega) ?_).trans (hb4.block j hjl))).trans hjo
        rcases hvs.2 with ⟨e, _⟩ | ⟨g', cap', cur', e, _, hgb, _⟩
        · rw [e]; intro h; cases h
        · rw [e]
          intro h
          obtain rfl : j = g' := by simpa [Value.ownBlock] using h
          rw [hjo] at hgb
          cases hgb
          cases hc
      · exact hC6
      · rw [List.length_append]
        exact hst.apart hx6 (by omega)
    · refine wp_callE 115 #[.slice (some ⟨b, off + 8 * x.1, none⟩) 8 8] (by go_simp) _ (sclone_any q 8 (by decide) hpl b (off + 8 * x.1) 8 { W with drawn := W.drawn + 1 } (hrow.later hB.drew) (by decide)) ?_
      rintro v2 W3 ⟨g, c', rfl, hcc, hgz, hgl, hrw, hb⟩
      refine ⟨trivial, ?_⟩
      simp only [Act.put, List.setIfInBounds_toArray, List.set_cons_zero, List.set_cons_succ]
      have hb3 : Below W.heap.size W W3 := (Below.refl _ _).drew.trans hb
      have z3 := hb3.size
      refine pairL (i := 0) (k := 3) (.slice vo pre.length co) (.slice (some ⟨W3.heap.size, 0, none⟩) 1 1) (Wn := W3.alloc (.cells #[.slice (some ⟨g, 0, none⟩) 8 c'] 34)) rfl rfl (by kernel_rfl) (by kernel_rfl) (by kernel_rfl) rfl rfl rfl rfl (run_load_cell _ 96 _ (by rfl) ⟨w.heap.size, 0, none⟩ (by rfl) _ ((hb3.cell (p := ⟨w.heap.size, 0, none⟩) (show w.heap.size < W.heap.size by omega)).trans hv.cell) _ Tryd.underlying96 rfl) (run_load_cell _ 96 _ (by rfl) ⟨w.heap.size, 0, none⟩ (by rfl) _ (((hb3.alloc z3 _).cell (p := ⟨w.heap.size, 0, none⟩) (show w.heap.size < W.heap.size by omega)).trans hv.cell) _ Tryd.underlying96 rfl) (run_bslice_bs W3 _ (by rfl) (some ⟨g, 0, none⟩) 8 c' (by rfl)) (run_bslice_bs W3 _ (by rfl) (some ⟨g, 0, none⟩) 8 c' (by rfl)) trivial trivial rfl rfl ?_
      simp only [Act.put, List.setIfInBounds_toArray, List.set_cons_zero, List.set_cons_succ]
      obtain ⟨vs, hvs, g2, g3⟩ := hO
      have hb4 : Below W.heap.size W (W3.alloc (.cells #[.slice (some ⟨g, 0, none⟩) 8 c'] 34)) := hb3.alloc z3 _
      have hlt2 := World.ownsRow.lt hvs
      refine oneL (i := 4) rfl (by kernel_rfl) rfl (wp_appS (w0 := W3.alloc (.cells #[.slice (some ⟨g, 0, none⟩) 8 c'] 34)) (n0 := w.heap.size + 1 + 1 + 1) (.tmp 34) (.tmp 37) 96 34 rfl Tryd.underlying96 (.slice none 0 0) 1 24 info_bs rfl (by decide) (w.heap.size + 1 + 1 + 1) pre.length (.slice vo pre.length co) vs rfl (own_later hvs hb4) ⟨W3.heap.size, 0, none⟩ 1 1 rfl [.slice (some ⟨g, 0, none⟩) 8 c'] rfl (range_whole (heap_new _ _ _ _ rfl)) rfl (by simp [Value.oneCell']) (by omega) (by omega) (by rw [World.size_alloc]; omega) (Nat.le_refl _) (Below.refl _ _) (fun v5 W5 h5 b5 z5 o5 q5 => ⟨trivial, ?_⟩))
      obtain ⟨va5, c5, e5, _⟩ := own_form h5
      subst e5
      have z5b := b5.size
      rw [World.size_alloc] at z5b
      have b5w := (hb4.mono hsz).trans b5
      simp only [Act.put, List.setIfInBounds_toArray, List.set_cons_zero, List.set_cons_succ]
      refine oneL (i := 5) rfl (by kernel_rfl) rfl (wp_store1 96 _ _ rfl w.heap.size 0 rfl _ rfl rfl sz_bss #[.slice vo pre.length co] 96 ((b5w.block _ (by omega)).trans hv) (by simp) (fun W6 hC6 hx6 => ⟨trivial, ?_⟩))
      refine wpAnyH_done (by kernel_rfl) ?_ _
      have hst : OutI (w.heap.size + 1 + 1 + 1) (pre.length + 1) (.slice va5 (pre.length + 1) c5) (pieceAt l (pre ++ [x])) W5 := OutI.step (W := W3.alloc (.cells #[.slice (some ⟨g, 0, none⟩) 8 c'] 34)) g2 (fun i hi => by
        obtain ⟨b', o', ci, h4, h6, h7, h8, h9, h10⟩ := g3 i hi
        rw [← hold i hi]
        exact ⟨b', o', ci, h4, h6.later hb4, h7, Nat.lt_of_lt_of_le h8 hb4.size, h9, h10⟩) (b := g) (c := c') (Nat.le_trans hsz hgz) (by rw [hnew]; exact hrw.later ((Below.refl _ _).alloc (Nat.le_refl _) _)) (by rw [hnew, hpl]; exact hcc) (by rw [World.size_alloc]; omega) (fun e => by have := (hlt2 _ e).2; have h11 : W.heap.size ≤ g := hgz; omega) (by rw [hnew, hpl]; exact h5) o5 q5 (by rw [World.size_alloc]; exact z5b)
      have hbw : Below w.heap.size W W6 := hx6.below (b5w.mono (by omega)) (Nat.le_refl _) (by omega)
      refine ⟨⟨hbw.size, fun j o hj hjo hc => ?_⟩, ⟨hbw, ((hx6.block (w.heap.size + 1) (by omega) (by omega)).trans (b5w.block _ (by omega))).symm, ((hx6.block (w.heap.size + 1 + 1) (by omega) (by omega)).trans (b5w.block _ (by omega))).symm⟩, ⟨⟨.slice va5 (pre.length + 1) c5, ?_, ?_⟩, hB.trans hbw, Nat.le_trans hsz hbw.size⟩⟩
      · have hjl := (Array.getElem?_eq_some_iff.1 hjo).1
        refine ((hx6.block j (by omega) (by omega)).trans ((o5 j (by rw [World.size_alloc]; omega) ?_).trans (hb4.block j hjl))).trans hjo
        rcases hvs.2 with ⟨e, _⟩ | ⟨g', cap', cur', e, _, hgb, _⟩
        · rw [e]; intro h; cases h
        · rw [e]
          intro h
          obtain rfl : j = g' := by simpa [Value.ownBlock] using h
          rw [hjo] at hgb
          cases hgb
          cases hc
      · exact hC6
      · rw [List.length_append]
        exact hst.apart hx6 (by omega)
  case done =>
    rintro D ys W hD rfl ⟨⟨v, hv, hO⟩, hB, hsz⟩ hK
    have hc := hv.cell
    gi_wp2
    refine ⟨by simp, .inl ⟨_, _, rfl, run_takeDeferred hK, ?_⟩⟩
    have hlk := uptoN_length (Nat.le_refl k)
    rw [hlk] at hO
    refine ⟨.tuple #[v, .int .i64 0], ?_, ⟨v, rfl, ?_⟩, ?_⟩
    · simp [results, Tryd.f76, go_sem]
    · refine OutI.congr (OutI.kept hO (fun i hi => by rw [pieceAt_len hl.out _ i (by rw [hlk]; exact hi)]; decide) (grownBy_putObj' W D (.deferred none)) (fun r e => by cases e; exact ⟨_, hK, rfl⟩)) (fun i hi => ?_)
      unfold pieceAt
      rw [uptoN_get (Nat.le_refl k) hi]
    · exact hB.trans (belowK_b (w := w) (Nat.le_refl _) W D _ _ (by omega) hK rfl rfl)
  case stop =>
    rintro D c pre W _ _ h _
    exact h.elim
end Go.Proofs.YtihelknkcomjpaaDoor
