/- A state and an attestation's data that are handed in, opened. -/
import Derived.Test.YtfnjcpopadpmbaaDoorRows
import Derived.Test.YtfnjcpopadpmbaaDoorJUpS
set_option linter.unusedVariables false
set_option linter.unusedSimpArgs false
set_option linter.unnecessarySimpa false
namespace Go.Proofs.YtfnjcpopadpmbaaDoor
open Go.RowKit Go.ChangeShapes Go.WideShapes

/-- The type that lies in a state's cell. -/
def stT (k : Nat) : TypeId :=
  match stK k with
  | some .u8 => 5
  | some .u64 => 22
  | some .bool => 4
  | none => if k = 653 then 32 else if k = 719 then 35 else if k = 721 then 36 else if k = 722 ∨ k = 1092 then 37 else 39
def chkSt : List TypeId → Nat → Bool
  | [], k => Nat.beq k 1957
  | t :: ts, k => Nat.beq t (stT k) && chkSt ts (k + 1)
theorem chkSt_get : ∀ (l : List TypeId) (k : Nat), chkSt l k = true → k + l.length = 1957 ∧ ∀ i, i < l.length → l.getD i 0 = stT (k + i)
  | [], k, h => ⟨by simpa [chkSt] using h, fun i hi => by simp at hi⟩
  | t :: ts, k, h => by
    simp only [chkSt, Bool.and_eq_true] at h
    obtain ⟨h1, h2⟩ := chkSt_get ts (k + 1) h.2
    refine ⟨by simp; omega, fun i hi => ?_⟩
    cases i with
    | zero => simpa using h.1
    | succ i =>
      have := h2 i (by simpa using hi)
      rw [show k + 1 + i = k + (i + 1) by omega] at this
      simpa using this
def stB (P : Program) : Bool :=
  match leafT P 10 49 with
  | some l => chkSt l 0
  | none => false
set_option maxRecDepth 100000 in
theorem st_ok : stB Tryd.prog = true := by kernel_rfl
theorem c_state : Tryd.prog.cellsOf 49 = 1957 := by kernel_rfl
theorem is_u8 : CK.isB Tryd.prog 5 .u8 = true := by kernel_rfl
theorem is_u64 : CK.isB Tryd.prog 22 .u64 = true := by kernel_rfl
theorem is_bool : CK.isB Tryd.prog 4 .bool = true := by kernel_rfl
theorem kd_root : kdB Tryd.prog 10 24 32 u8K = true := by kernel_rfl
theorem kd_eth1 : kdB Tryd.prog 10 34 65 eth1K = true := by kernel_rfl
theorem kd_val : kdB Tryd.prog 10 59 86 valK = true := by kernel_rfl
theorem kd_u64 : kdB Tryd.prog 10 22 1 (fun _ => .u64) = true := by kernel_rfl
theorem kd_u8 : kdB Tryd.prog 10 5 1 (fun _ => .u8) = true := by kernel_rfl
theorem c_root : Tryd.prog.cellsOf 24 = 32 := by kernel_rfl
theorem c_eth1 : Tryd.prog.cellsOf 34 = 65 := by kernel_rfl
theorem c_val : Tryd.prog.cellsOf 59 = 86 := by kernel_rfl
theorem c_u64 : Tryd.prog.cellsOf 22 = 1 := by kernel_rfl
theorem c_u8 : Tryd.prog.cellsOf 5 = 1 := by kernel_rfl

theorem mk_one (c : CK) (n : Int) : (c.mk n).oneCell' = true := by cases c <;> rfl
theorem stK_none (k : Nat) (hk : k < 1957) (h : stK k = none) : k = 653 ∨ k = 719 ∨ k = 721 ∨ k = 722 ∨ k = 987 ∨ k = 988 ∨ k = 1092 := by
  unfold stK at h
  split at h
  · omega
  · cases h
section
variable {H : Type} {enc : TypeId × Value → H} {w : World}
theorem state_open {base : Nat} {spare : Nat → Bool} {held : Bool} {fuel : Nat} {xs : Array Value} {x : DataW H × List MemPlace} (h : DataW.trod enc Tryd.prog w base spare held fuel 49 xs.toList = some x) : ∃ s, StRep w xs s := by
  have hb := st_ok
  unfold stB at hb
  split at hb
  · rename_i l hl
    obtain ⟨h0, hg⟩ := chkSt_get l 0 hb
    have h1 : l.length = 1957 := by omega
    have h3 : ∀ k, k < 1957 → l.getD k 0 = stT k := fun k hk => by have := hg k (by omega); rwa [Nat.zero_add] at this
    have ht := trod_cells 10 _ l hl (by rw [c_state, h1]) fuel _ x h
    have hsz : xs.size = 1957 := by have := trodL_length ht; simpa [h1] using this
    have at_ : ∀ k, k < 1957 → ∃ v, xs[k]? = some v ∧ ∃ fuel x, DataW.trod enc Tryd.prog w base spare held fuel (l.getD k 0) [v] = some x := fun k hk => by
      obtain ⟨v, hv, f⟩ := trodL_get ht k (l.getD k 0) (by simp [List.getD, show k < l.length by omega])
      exact ⟨v, by simpa using hv, f⟩
    have flat : ∀ k c, stK k = some c → xs[k]? = some (c.mk (num (xs.getD k undef))) ∧ c.ok (num (xs.getD k undef)) := by
      intro k c hc
      have hk : k < 1957 := by
        unfold stK at hc
        split at hc
        · cases hc
        · omega
      obtain ⟨v, hv, f, y, hy⟩ := at_ k hk
      have his : CK.isB Tryd.prog (l.getD k 0) c = true := by
        rw [h3 k hk]
        unfold stT
        rw [hc]
        cases c
        · exact is_u8
        · exact is_u64
        · exact is_bool
      have := cell_kind his hy
      have e : xs.getD k undef = v := by simp [hv]
      rw [e, hv]
      exact ⟨congrArg some this.1, this.2⟩
    have sl : ∀ k, k < 1957 → ∀ t, l.getD k 0 = t → ∃ v, xs[k]? = some v ∧ ∃ fuel x, DataW.trod enc Tryd.prog w base spare held fuel t [v] = some x := fun k hk t e => by
      obtain ⟨v, hv, f⟩ := at_ k hk
      rw [e] at f
      exact ⟨v, hv, f⟩
    obtain ⟨v1, e1, f1, y1, t1⟩ := sl 653 (by omega) _ (h3 653 (by omega))
    obtain ⟨v2, e2, f2, y2, t2⟩ := sl 719 (by omega) _ (h3 719 (by omega))
    obtain ⟨v3, e3, f3, y3, t3⟩ := sl 721 (by omega) _ (h3 721 (by omega))
    obtain ⟨v4, e4, f4, y4, t4⟩ := sl 722 (by omega) _ (h3 722 (by omega))
    obtain ⟨v5, e5, f5, y5, t5⟩ := sl 987 (by omega) _ (h3 987 (by omega))
    obtain ⟨v6, e6, f6, y6, t6⟩ := sl 988 (by omega) _ (h3 988 (by omega))
    obtain ⟨v7, e7, f7, y7, t7⟩ := sl 1092 (by omega) _ (h3 1092 (by omega))
    obtain ⟨a1, c1, l1, rfl, r1, m1⟩ := rows_open Tryd.underlying32 kd_root c_root (by omega) t1
    obtain ⟨a2, c2, l2, rfl, r2, m2⟩ := rows_open Tryd.underlying35 kd_eth1 c_eth1 (by omega) t2
    obtain ⟨a3, c3, l3, rfl, r3, m3⟩ := rows_open Tryd.underlying36 kd_val c_val (by omega) t3
    obtain ⟨a4, c4, l4, rfl, r4, m4⟩ := row_open Tryd.underlying37 kd_u64 c_u64 t4
    obtain ⟨a5, c5, l5, rfl, r5, m5⟩ := row_open Tryd.underlying39 kd_u8 c_u8 t5
    obtain ⟨a6, c6, l6, rfl, r6, m6⟩ := row_open Tryd.underlying39 kd_u8 c_u8 t6
    obtain ⟨a7, c7, l7, rfl, r7, m7⟩ := row_open Tryd.underlying37 kd_u64 c_u64 t7
    refine ⟨⟨fun k => num (xs.getD k undef), l1, l2, l3, l4, l5, l6, l7⟩, hsz, ?_, flat, ⟨a1, c1, e1, r1, m1⟩, ⟨a2, c2, e2, r2, m2⟩, ⟨a3, c3, e3, r3, m3⟩, ⟨a4, c4, e4, r4, m4⟩, ⟨a5, c5, e5, r5, m5⟩, ⟨a6, c6, e6, r6, m6⟩, ⟨a7, c7, e7, r7, m7⟩⟩
    intro v hv
    obtain ⟨i, hi, rfl⟩ := Array.mem_iff_getElem.1 hv
    have hi' : i < 1957 := by omega
    have hget : ∀ u, xs[i]? = some u → xs[i] = u := fun u hu => by simpa [hi] using hu
    cases hk : stK i with
    | some c =>
      rw [hget _ (flat i c hk).1]
      exact mk_one _ _
    | none =>
      rcases stK_none i hi' hk with rfl | rfl | rfl | rfl | rfl | rfl | rfl
      · rw [hget _ e1]; rfl
      · rw [hget _ e2]; rfl
      · rw [hget _ e3]; rfl
      · rw [hget _ e4]; rfl
      · rw [hget _ e5]; rfl
      · rw [hget _ e6]; rfl
      · rw [hget _ e7]; rfl
  · cases hb
end
end Go.Proofs.YtfnjcpopadpmbaaDoor
