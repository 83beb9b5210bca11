/- pharosref08.EncIndexed: the bytes of an indexed attestation. -/
/- The root of an indexed attestation: oper.RootIndexed, pharosref08.RootIndexed. -/
/- pharosref08.RootIndexed: the root of an indexed attestation, the reference's. -/
import Derived.Test.YtihelknkcomjpaaDoorJHshX
import Derived.Test.YtihelknkcomjpaaDoorJIxA
import Derived.Test.YtihelknkcomjpaaDoorKSmData
import Derived.Test.YtihelknkcomjpaaDoorJMkE
import Derived.Test.YtihelknkcomjpaaDoorKSrData
set_option linter.unusedVariables false
set_option linter.unusedSimpArgs false
set_option linter.unnecessarySimpa false
namespace Go.Proofs.YtihelknkcomjpaaDoor
open Go.RowKit BigFrame
set_option maxRecDepth 100000
end Go.Proofs.YtihelknkcomjpaaDoor
namespace Go.Proofs.YtihelknkcomjpaaDoor
open Go.RowKit BigFrame
set_option maxRecDepth 100000
end Go.Proofs.YtihelknkcomjpaaDoor
namespace Go.Proofs.YtihelknkcomjpaaDoor
open Go.RowKit BigFrame
set_option maxRecDepth 100000
section
variable {n : Nat} {C : List Value} {t tc : TypeId} {K : Nat} {rs : List (Nat → Int)} {w W W' : World}
theorem RefV.pack0 (h : RefV n C t tc K rs w W) (l : List Int) (va : Option Addr) (c k q : Nat) (hl : SlB va c l W) (hk : l.length = k) (hq : (k + 31) / 32 = q) (h2 : k ≤ 1000000000) :
    Calls Tryd.prog 71 #[.slice va k c] W fun e w' => ∃ va' c', e = .returned (.slice va' q c') ∧ RowR w' va' (chunks l) ∧ (∀ b o, va' = some ⟨b, o, none⟩ → b < w'.heap.size) ∧ q ≤ c' ∧ RefV n C t tc K rs w w' := by
  subst hk
  refine (rpack_any l va c W hl.row hl.low (by omega)).mono fun _ _ ⟨⟨va', c', h3, h4⟩, h5⟩ => ?_
  have hq' : (chunks l).length = q := by rw [chunks_length, hq]
  rw [hq'] at h3 h4
  obtain ⟨k1, k2, k3⟩ := h4.rowR hq' (chunks_is hl.row.ok)
  exact ⟨va', c', h3, k1, k2, k3, h.later h5⟩
theorem RefV.mustM (h : RefV n C t tc K rs w W) (l : List (Nat → Int)) (va : Option Addr) (c q d m : Nat) (x : Int) (hx : x = (m : Int)) (hl : RowR W va l) (hlow : ∀ b o, va = some ⟨b, o, none⟩ → b < W.heap.size) (hc : q ≤ c) (hq : l.length = q) (hm : q ≤ m) (hd : Dep m d) (hd40 : d ≤ 40) :
    Calls Tryd.prog 47 #[.slice va q c, .int .i64 x] W fun e w' => e = .returned (.agg (rootV (fullT d (leaf l)))) ∧ RefV n C t tc K rs w w' := by
  subst hx
  exact (must_any l q m d va c W hq hm hd hd40 hl hlow hc h.hT).mono fun _ _ ⟨h3, h4⟩ => ⟨h3, h.later h4⟩
end
end Go.Proofs.YtihelknkcomjpaaDoor
