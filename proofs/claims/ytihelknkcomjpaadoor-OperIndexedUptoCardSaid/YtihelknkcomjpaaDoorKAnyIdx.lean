/- The law of indexed attestations over whatever is handed in. -/
import Derived.Test.YtihelknkcomjpaaDoorKOpenB
import Derived.Test.YtihelknkcomjpaaDoorJIxH
import Derived.Test.YtihelknkcomjpaaDoorKLgIdx
set_option linter.unusedVariables false
set_option linter.unusedSimpArgs false
set_option linter.unnecessarySimpa false
namespace Go.Proofs.YtihelknkcomjpaaDoor
open Go.ChangeShapes Go.WideShapes Go.ChangeAt Go.RowKit BigFrame
set_option maxRecDepth 100000
theorem kd_c64 : kdB Tryd.prog 10 27 1 (fun _ => .u64) = true := by kernel_rfl
theorem sz_c64 : Tryd.prog.cellsOf 27 = 1 := by kernel_rfl
/-- What is handed in. -/
def HandIdx (X : Array Value) (W : World) : Prop :=
  ∃ who fd fs, RepIdx who fd fs X W ∧ (∀ m ∈ who, CK.ok .u64 m) ∧ (∀ j, j < 100 → (kdData j).ok (fd j)) ∧ (∀ j, j < 96 → CK.ok .u8 (fs j)) ∧ who.length ≤ 1048576
def kdIdx (j : Nat) : Option CK := if j = 0 then none else if j < 101 then some (kdData (j - 1)) else some .u8
theorem kinds_Idx : kindsB Tryd.prog 61 197 kdIdx = true := by kernel_rfl
theorem cell0_Idx : (cellTs Tryd.prog 61).getD 0 0 = 55 := by kernel_rfl
theorem idx_cells {xs : List Value} {v0 : Value} {fd fs : Nat → Int} (hl : xs.length = 197) (h0 : xs[0]? = some v0) (h1 : ∀ j, j < 100 → xs[1 + j]? = some ((kdData j).mk (fd j))) (h2 : ∀ j, j < 96 → xs[101 + j]? = some (.int .u8 (fs j))) : xs = idxC v0 fd fs := by
  apply List.ext_getElem?
  intro i
  by_cases c0 : i = 0
  · subst c0; rw [h0]; rfl
  · by_cases c1 : i < 101
    · obtain ⟨j, rfl⟩ : ∃ j, i = 1 + j := ⟨i - 1, by omega⟩
      rw [h1 j (by omega)]
      unfold idxC
      rw [Nat.add_comm, List.getElem?_cons_succ, List.getElem?_append_left (by rw [fcells_length]; omega), fcells_get _ _ _ _ (by omega)]
    · by_cases c2 : i < 197
      · obtain ⟨j, rfl⟩ : ∃ j, i = 101 + j := ⟨i - 101, by omega⟩
        rw [h2 j (by omega)]
        unfold idxC
        rw [show 101 + j = (100 + j) + 1 by omega, List.getElem?_cons_succ, List.getElem?_append_right (by rw [fcells_length]; omega), fcells_length, Nat.add_sub_cancel_left, fcells_get _ _ _ _ (by omega)]
        rfl
      · rw [List.getElem?_eq_none (by omega), List.getElem?_eq_none (by rw [idxC_length]; omega)]
theorem openIdx {H : Type} {enc : TypeId × Value → H} {W : World} {base : Nat} {spare : Nat → Bool} {held : Bool} {N : Nat} {fuel : Nat} {X : Array Value} {x : DataW H × List MemPlace} (h : DataW.trod enc Tryd.prog W base spare held fuel 61 X.toList = some x) (hN : Rows.uptoBulk x.1 ≤ N) (hN2 : N ≤ 1048576) : HandIdx X W := by
  obtain ⟨hl, hf, ha⟩ := cells_openB kinds_Idx h hN
  obtain ⟨v0, f0, y0, e0, t0, b0⟩ := ha 0 (by decide)
  rw [cell0_Idx] at t0
  obtain ⟨va, cap, who, rfl, hr, hb⟩ := row_openB Tryd.underlying55 kd_c64 sz_c64 t0
  have hg : ∀ j, j < 197 → ∀ c, kdIdx j = some c → X.toList[j]? = some (c.mk (num (X.toList.getD j undef))) ∧ c.ok (num (X.toList.getD j undef)) := fun j hj c hc => by
    obtain ⟨v, hv, e, ho⟩ := hf j hj c hc
    have e2 : X.toList.getD j undef = v := by simp only [List.getD, hv, Option.getD_some]
    rw [e2, hv]
    exact ⟨congrArg some e, ho⟩
  have hd : ∀ j, j < 100 → X.toList[1 + j]? = some ((kdData j).mk (num (X.toList.getD (1 + j) undef))) ∧ (kdData j).ok (num (X.toList.getD (1 + j) undef)) := fun j hj => hg (1 + j) (by omega) (kdData j) (by unfold kdIdx; rw [if_neg (by omega), if_pos (by omega), Nat.add_sub_cancel_left])
  have hs : ∀ j, j < 96 → X.toList[101 + j]? = some (.int .u8 (num (X.toList.getD (101 + j) undef))) ∧ CK.ok .u8 (num (X.toList.getD (101 + j) undef)) := fun j hj => hg (101 + j) (by omega) .u8 (by unfold kdIdx; rw [if_neg (by omega), if_neg (by omega)])
  refine ⟨who, fun j => num (X.toList.getD (1 + j) undef), fun j => num (X.toList.getD (101 + j) undef), ⟨va, cap, ?_, hr⟩, hr.ok, fun j hj => (hd j hj).2, fun j hj => (hs j hj).2, by omega⟩
  apply Array.toList_inj.1
  exact idx_cells hl e0 (fun j hj => (hd j hj).1) (fun j hj => (hs j hj).1)
theorem rowIdx : rowB Tryd.prog 61 197 = true := by kernel_rfl
/-- What both encoders, and both hashers, answer for what stands so. -/
theorem encs_Idx {who : List Int} {fd fs : Nat → Int} (hd : ∀ j, j < 100 → (kdData j).ok (fd j)) (hs : ∀ j, j < 96 → CK.ok .u8 (fs j)) (hk : who.length ≤ 64) {X : Array Value} {W : World} (h : RepIdx who fd fs X W) :
    (Calls Tryd.prog 21 #[.agg X] W fun e w' => (∃ va c, e = .returned (.tuple #[.slice va (encLIdx who fd fs).length c, .int .i64 0]) ∧ (va = none → c = 0) ∧ OwnB W.heap.size (.slice va (encLIdx who fd fs).length c) (encLIdx who fd fs) w') ∧ Below W.heap.size W w') ∧
    Calls Tryd.prog 23 #[.agg X] W fun e w' => (∃ va c, e = .returned (.tuple #[.slice va (encLIdx who fd fs).length c, .int .i64 0]) ∧ (va = none → c = 0) ∧ OwnB W.heap.size (.slice va (encLIdx who fd fs).length c) (encLIdx who fd fs) w') ∧ Below W.heap.size W w' := by
  obtain ⟨vn, cn, rfl, hr⟩ := h
  rw [encIdx_length]
  exact ⟨enc_Idx who vn cn fd fs hd hs W hr hk, renc_Idx who vn cn fd fs hd hs W hr hk⟩
theorem nil_own {base : Nat} {w : World} : OwnB base (.slice none 0 0) [] w := OwnB.nil _ _
theorem lawIdx_any (X : Array Value) {w : World} (hX : HandIdx X w) (lb : List Int) (vb : Option Addr) (cb : Nat) (hT : Tabs w) (hb : SlB vb cb lb w) (hfew : lb.length ≤ 70368744170000) :
    Calls Tryd.prog 5 #[.agg X, .slice vb lb.length cb] w fun e w' => e = .returned (.bool true) ∧ Below w.heap.size w w' := by
  obtain ⟨who, fd, fs, hR, hw, hd, hs, hn⟩ := hX
  obtain ⟨eI, who2, fd2, fs2, hI⟩ := idxRd_some lb
  have hz : ∀ j, j < 100 → (kdData j).ok 0 := fun j hj => zero_Data j hj
  have h2 : who2.length ≤ 64 ∧ (∀ j, j < 100 → (kdData j).ok (fd2 j)) ∧ (∀ j, j < 96 → CK.ok .u8 (fs2 j)) ∧ (eI = 0 → encLIdx who2 fd2 fs2 = lb) := by
    by_cases e0 : eI = 0
    · subst e0
      obtain ⟨k1, k2, k3, k4, k5⟩ := encIdx_rd hb.row.ok hI
      exact ⟨k2, k4, k5, fun _ => k1⟩
    · rcases hI with ⟨_, rfl, rfl, rfl, _⟩ | ⟨rfl, _⟩
      · exact ⟨by decide, hz, fun j hj => (⟨by decide, by decide⟩ : CK.ok .u8 0), fun h => absurd h e0⟩
      · exact absurd rfl e0
  obtain ⟨h64, hd2, hs2, hU⟩ := h2
  have hrd : ∀ (va : Option Addr) (c : Nat) (W : World), SlB va c lb W → (∀ ad, va = some ad → ad.block < W.heap.size) → Calls Tryd.prog 25 #[.slice va lb.length c] W fun e w' => (∃ Y : Array Value, e = .returned (.tuple #[.agg Y, .int .i64 (eI : Int)]) ∧ Y.size = 197 ∧ Y.all (·.oneCell') = true ∧ RepIdx who2 fd2 fs2 Y w') ∧ Below W.heap.size W w' :=
    fun va c W hs hl => readIdx_any lb eI who2 fd2 fs2 hI va c W hs hl (by omega)
  by_cases hk : who.length ≤ 64
  · obtain ⟨fd', fs', hE, hfd, hfs⟩ := idxRd_enc hk hw hd hs
    exact lawg_Idx rowIdx X hR.size (fun W => RepIdx who fd fs X W) (fun W1 W2 h hb => RepIdx.later X W1 W2 h hb) (encLIdx who fd fs) (encIdx_ok hd hs) 0 (rootIdx who fd fs)
      (fun W h => (encs_Idx hd hs hk h).1) (fun W h => (encs_Idx hd hs hk h).2)
      (fun W h hT => by obtain ⟨vn, cn, rfl, hr⟩ := h; exact root_Idx who vn cn fd fs hd hs W hT hr hk)
      (fun W h hT => by obtain ⟨vn, cn, rfl, hr⟩ := h; exact rroot_Idx who vn cn fd fs hd hs W hT hr hk)
      (RepIdx who fd fs) RepIdx.later
      (fun _ va c W hsl => (readIdx_any _ 0 who fd' fs' hE va c W hsl (hsl.lowA (by rw [encIdx_length]; omega)) (by rw [encIdx_length]; omega)).mono fun e w' ⟨⟨Y, k1, k2, k3, k4⟩, k5⟩ => ⟨⟨Y, k1, k2, k3, k4.congr hfd hfs⟩, k5⟩)
      (fun _ Y W h => (encs_Idx hd hs hk h).2)
      lb vb cb w hT hR hb hfew (eI : Int) (encLIdx who2 fd2 fs2) (encIdx_ok hd2 hs2) (fun h => hU (by omega)) (RepIdx who2 fd2 fs2) RepIdx.later
      (fun g c W hsl => hrd _ c W hsl hsl.lowG)
      (fun va c W hsl => rreadIdx_any lb eI who2 fd2 fs2 hI va c W hsl (by omega))
      (fun Y W h => (encs_Idx hd2 hs2 h64 h).2)
  · exact lawg_Idx rowIdx X hR.size (fun W => RepIdx who fd fs X W) (fun W1 W2 h hb => RepIdx.later X W1 W2 h hb) [] (fun m hm => by simp at hm) 6 zeroR
      (fun W h => by obtain ⟨vn, cn, rfl, hr⟩ := h; exact (encL_Idx who vn cn fd fs hd hs W hr (by omega) (by omega)).mono fun e w' ⟨k1, k2⟩ => ⟨⟨none, 0, k1, fun _ => rfl, nil_own⟩, k2⟩)
      (fun W h => by obtain ⟨vn, cn, rfl, hr⟩ := h; exact (rencL_Idx who vn cn fd fs hd hs W hr (by omega) (by omega)).mono fun e w' ⟨k1, k2⟩ => ⟨⟨none, 0, k1, fun _ => rfl, nil_own⟩, k2⟩)
      (fun W h hT => by obtain ⟨vn, cn, rfl, hr⟩ := h; exact rootL_Idx who vn cn fd fs hd hs W hT hr (by omega) (by omega))
      (fun W h hT => by obtain ⟨vn, cn, rfl, hr⟩ := h; exact rrootL_Idx who vn cn fd fs hd hs W hT hr (by omega) (by omega))
      (RepIdx who fd fs) RepIdx.later (fun h => by cases h) (fun h => by cases h)
      lb vb cb w hT hR hb hfew (eI : Int) (encLIdx who2 fd2 fs2) (encIdx_ok hd2 hs2) (fun h => hU (by omega)) (RepIdx who2 fd2 fs2) RepIdx.later
      (fun g c W hsl => hrd _ c W hsl hsl.lowG)
      (fun va c W hsl => rreadIdx_any lb eI who2 fd2 fs2 hI va c W hsl (by omega))
      (fun Y W h => (encs_Idx hd2 hs2 h64 h).2)
end Go.Proofs.YtihelknkcomjpaaDoor
