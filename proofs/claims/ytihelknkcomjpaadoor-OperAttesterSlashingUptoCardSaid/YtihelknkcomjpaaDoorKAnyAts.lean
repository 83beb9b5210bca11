/- The law of attesters' slashings over whatever is handed in. -/
import Derived.Test.YtihelknkcomjpaaDoorKOpenB
import Derived.Test.YtihelknkcomjpaaDoorJAtsE
import Derived.Test.YtihelknkcomjpaaDoorKAnyIdx
import Derived.Test.YtihelknkcomjpaaDoorKLgAts
set_option linter.unusedVariables false
set_option linter.unusedSimpArgs false
set_option linter.unnecessarySimpa false
namespace Go.Proofs.YtihelknkcomjpaaDoor
open Go.ChangeShapes Go.WideShapes Go.ChangeAt Go.RowKit BigFrame
set_option maxRecDepth 100000
theorem readAts_any (l : List Int) (eI : Nat) (a b : Ix) (hR : AtsRd l eI a b) (va : Option Addr) (c : Nat) (w : World) (hs : SlB va c l w) (hlow : ∀ ad, va = some ad → ad.block < w.heap.size) (hfew : l.length ≤ 70368744177664) :
    Calls Tryd.prog 31 #[.slice va l.length c] w fun e w' => (∃ Y : Array Value, e = .returned (.tuple #[.agg Y, .int .i64 (eI : Int)]) ∧ Y.size = 394 ∧ Y.all (·.oneCell') = true ∧ RepAts a b Y w') ∧ Below w.heap.size w w' := by
  rcases hR with ⟨h0, rfl, rfl, ⟨h1, he⟩ | ⟨h1, h2, he⟩ | ⟨h1, h2, h3 | ⟨a', h3, h4⟩⟩⟩ | ⟨rfl, h1, h2, h3, h4⟩
  · exact readAts_short l eI he va c w hs hlow hfew h1
  · exact readAts_form l eI he va c w hs hlow hfew h1 h2
  · exact readAts_one l eI Ix0 h0 va c w hs hlow hfew h1 h2 h3
  · exact readAts_two l eI a' Ix0 h0 va c w hs hlow hfew h1 h2 h3 h4
  · exact readAts_ok l a b va c w hs hlow hfew h1 h2 h3 h4
theorem rreadAts_any (l : List Int) (eI : Nat) (a b : Ix) (hR : AtsRd l eI a b) (va : Option Addr) (c : Nat) (w : World) (hs : SlB va c l w) (hfew : l.length ≤ 70368744177664) :
    Calls Tryd.prog 32 #[.slice va l.length c] w fun e w' => (∃ Y : Array Value, e = .returned (.tuple #[.agg Y, .int .i64 (eI : Int)]) ∧ Y.size = 394 ∧ Y.all (·.oneCell') = true ∧ RepAts a b Y w') ∧ Below w.heap.size w w' := by
  rcases hR with ⟨h0, rfl, rfl, ⟨h1, he⟩ | ⟨h1, h2, he⟩ | ⟨h1, h2, h3 | ⟨a', h3, h4⟩⟩⟩ | ⟨rfl, h1, h2, h3, h4⟩
  · exact rreadAts_short l eI he va c w hs hfew h1
  · exact rreadAts_form l eI he va c w hs hfew h1 h2
  · exact rreadAts_one l eI Ix0 h0 va c w hs hfew h1 h2 h3
  · exact rreadAts_two l eI a' Ix0 h0 va c w hs hfew h1 h2 h3 h4
  · exact rreadAts_ok l a b va c w hs hfew h1 h2 h3 h4
theorem ix0_ok : Ix0.ok := ⟨fun m hm => by simp [Ix0] at hm, fun j hj => zero_Data j hj, fun j hj => (⟨by decide, by decide⟩ : CK.ok .u8 0), by decide⟩
theorem ix_enc_rd {l : List Int} {a : Ix} (hok : ∀ x ∈ l, CK.ok .u8 x) (h : Ix.rd l 0 a) : a.ok ∧ a.err = 0 ∧ a.L = l := by
  obtain ⟨k1, k2, k3, k4, k5⟩ := encIdx_rd hok h
  exact ⟨⟨k3, k4, k5, by omega⟩, by unfold Ix.err; rw [if_pos k2], by unfold Ix.L; rw [if_pos k2]; exact k1⟩
theorem ix_rd_enc {a : Ix} (h : a.ok) (h0 : a.err = 0) : ∃ a', Ix.rd a.L 0 a' ∧ a'.who = a.who ∧ ∀ s, a'.cells s = a.cells s := by
  have hk : a.who.length ≤ 64 := by
    unfold Ix.err at h0
    split at h0
    · assumption
    · cases h0
  obtain ⟨fd', fs', h1, h2, h3⟩ := idxRd_enc hk h.hw h.hd h.hs
  refine ⟨⟨a.who, fd', fs'⟩, by unfold Ix.L; rw [if_pos hk]; exact h1, rfl, fun s => ?_⟩
  unfold Ix.cells idxC
  rw [fcells_congr (N := 100) (kd := kdData) h2, fcells_congr (N := 96) (kd := fun _ => .u8) h3]
theorem offL_drop (l : List Int) (p : Nat) : offL (l.drop p) 0 = offL l p := by
  unfold offL
  congr 1
  exact rdI_ext 4 fun j _ => by simp only [List.getD, Nat.zero_add, List.getElem?_drop]
theorem encAts_rd {l : List Int} {a b : Ix} (hok : ∀ x ∈ l, CK.ok .u8 x) (h : AtsRd l 0 a b) : a.ok ∧ b.ok ∧ atsE a b = 0 ∧ atsL a b = l := by
  rcases h with ⟨h0, _⟩ | ⟨_, h8, hg, h1, h2⟩
  · exact absurd rfl h0
  · obtain ⟨ho, hq1, hq2⟩ := ats_offs h8 hg
    obtain ⟨a1, a2, a3⟩ := ix_enc_rd (l := atsP l) (take_ok hok 8 _) h1
    obtain ⟨b1, b2, b3⟩ := ix_enc_rd (l := atsQ l) (take_ok hok (offL l 4) _) h2
    have hE : atsE a b = 0 := by unfold atsE; rw [if_pos a2]; exact b2
    refine ⟨a1, b1, hE, ?_⟩
    unfold atsL
    rw [if_pos hE, a3, b3]
    have e1 : l.take 4 = le4 8 := four_bytes hok (by omega) 8 ho
    have e2 : (l.drop 4).take 4 = le4 ((8 + (atsP l).length : Nat) : Int) := by
      have hl : (atsP l).length = offL l 4 - 8 := by unfold atsP; rw [List.length_take, List.length_drop]; omega
      rw [hl, show 8 + (offL l 4 - 8) = offL l 4 by omega]
      exact four_bytes (l := l.drop 4) (fun x hx => hok x (List.mem_of_mem_drop hx)) (by rw [List.length_drop]; omega) _ (offL_drop l 4)
    rw [← e1, ← e2]
    unfold atsP atsQ
    rw [cat_end l (offL l 4) (l.length - offL l 4) (by omega), cat_next l 8 (offL l 4 - 8) (offL l 4) (by omega), cat_next l 4 4 8 (by decide), List.take_append_drop]
theorem offL_app {A B : List Int} {p : Nat} (hA : A.length = p) (n : Int) : offL (A ++ (le4 n ++ B)) p = offL (le4 n) 0 := by
  unfold offL
  congr 1
  refine rdI_ext 4 fun j hj => ?_
  simp only [List.getD, Nat.zero_add]
  rw [List.getElem?_append_right (by omega), hA, Nat.add_sub_cancel_left, List.getElem?_append_left (by rw [le4_length]; exact hj)]
theorem offL_le4 (n : Nat) (h : n < 4294967296) : offL (le4 (n : Int)) 0 = n := by
  have h1 := offL_is (l := le4 (n : Int)) (le4_ok _) 0
  simp only [rdI, Nat.zero_add] at h1
  have g : ∀ j, j < 4 → (le4 (n : Int)).getD j 0 = leB n j := fun j hj => by
    match j, hj with
    | 0, _ => rfl
    | 1, _ => rfl
    | 2, _ => rfl
    | 3, _ => rfl
  rw [g 0 (by decide), g 1 (by decide), g 2 (by decide), g 3 (by decide)] at h1
  unfold leB at h1
  omega
theorem atsRd_enc {a b : Ix} (ha : a.ok) (hb : b.ok) (hE : atsE a b = 0) : ∃ a' b', AtsRd (atsL a b) 0 a' b' ∧ a'.who = a.who ∧ b'.who = b.who ∧ (∀ s, a'.cells s = a.cells s) ∧ ∀ s, b'.cells s = b.cells s := by
  have h1 : a.err = 0 := by
    unfold atsE at hE
    split at hE
    · assumption
    · contradiction
  have h2 : b.err = 0 := by unfold atsE at hE; rwa [if_pos h1] at hE
  obtain ⟨a', ra, wa, ca⟩ := ix_rd_enc ha h1
  obtain ⟨b', rb, wb, cb⟩ := ix_rd_enc hb h2
  have hl := atsL_length hE
  have la := a.L_le
  have lb := b.L_le
  have hL : atsL a b = le4 8 ++ (le4 ((8 + a.L.length : Nat) : Int) ++ (a.L ++ b.L)) := by unfold atsL; rw [if_pos hE]
  have o0 : offL (atsL a b) 0 = 8 := by
    rw [hL]
    exact (offL_app (A := []) rfl 8).trans (offL_le4 8 (by decide))
  have o4 : offL (atsL a b) 4 = 8 + a.L.length := by
    rw [hL]
    exact (offL_app (le4_length _) _).trans (offL_le4 _ (by omega))
  have hP : atsP (atsL a b) = a.L := by
    unfold atsP
    rw [o4, hL, show le4 8 ++ (le4 ((8 + a.L.length : Nat) : Int) ++ (a.L ++ b.L)) = (le4 8 ++ le4 ((8 + a.L.length : Nat) : Int)) ++ (a.L ++ b.L) by simp]
    exact drop_take_mid _ _ _ 8 (8 + a.L.length - 8) (by simp [le4_length]) (by omega)
  have hQ : atsQ (atsL a b) = b.L := by
    unfold atsQ
    rw [o4, hl, hL, show le4 8 ++ (le4 ((8 + a.L.length : Nat) : Int) ++ (a.L ++ b.L)) = (le4 8 ++ (le4 ((8 + a.L.length : Nat) : Int) ++ a.L)) ++ (b.L ++ []) by simp]
    exact drop_take_mid _ _ _ _ _ (by simp [le4_length]; omega) (by omega)
  refine ⟨a', b', Or.inr ⟨rfl, by omega, fun q hq => ?_, by rw [hP]; exact ra, by rw [hQ]; exact rb⟩, wa, wb, ca, cb⟩
  rw [o0, o4]
  unfold offBad
  match q, hq with
  | 0, _ => simp; omega
  | 1, _ => simp; omega
theorem RepAts.congr {a b a' b' : Ix} {Y : Array Value} {W : World} (h : RepAts a' b' Y W) (wa : a'.who = a.who) (wb : b'.who = b.who) (ca : ∀ s, a'.cells s = a.cells s) (cb : ∀ s, b'.cells s = b.cells s) : RepAts a b Y W := by
  obtain ⟨s, t, e, ⟨v1, c1, e1, r1⟩, v2, c2, e2, r2⟩ := h
  rw [wa] at e1 r1
  rw [wb] at e2 r2
  refine ⟨s, t, ?_, ⟨v1, c1, e1, r1⟩, v2, c2, e2, r2⟩
  rw [e]
  unfold atsC
  rw [ca, cb]
/-- What is handed in. -/
def HandAts (X : Array Value) (W : World) : Prop := ∃ a b : Ix, RepAts a b X W ∧ a.ok ∧ b.ok
def kdAts (j : Nat) : Option CK := if j < 197 then kdIdx j else kdIdx (j - 197)
theorem kinds_Ats : kindsB Tryd.prog 68 394 kdAts = true := by kernel_rfl
theorem cell0_Ats : (cellTs Tryd.prog 68).getD 0 0 = 55 := by kernel_rfl
theorem cell1_Ats : (cellTs Tryd.prog 68).getD 197 0 = 55 := by kernel_rfl
/-- An indexed attestation among the cells of something greater. -/
theorem ix_in {H : Type} {enc : TypeId × Value → H} {W : World} {base : Nat} {spare : Nat → Bool} {held : Bool} {N fuel off : Nat} {cs : List Value} {v0 : Value} {y : DataW H × List MemPlace} (e0 : cs[off]? = some v0) (t0 : DataW.trod enc Tryd.prog W base spare held fuel 55 [v0] = some y) (b0 : Rows.uptoBulk y.1 ≤ N) (hN : N ≤ 1048576) (hlen : off + 197 ≤ cs.length)
    (hf : ∀ j, j < 197 → ∀ c, kdIdx j = some c → ∃ v, cs[off + j]? = some v ∧ v = c.mk (num v) ∧ c.ok (num v)) : ∃ a : Ix, a.ok ∧ a.at v0 W ∧ (cs.drop off).take 197 = a.cells v0 := by
  obtain ⟨va, cap, who, rfl, hr, hb⟩ := row_openB Tryd.underlying55 kd_c64 sz_c64 t0
  have hg : ∀ j, j < 197 → ∀ c, kdIdx j = some c → cs[off + j]? = some (c.mk (num (cs.getD (off + j) undef))) ∧ c.ok (num (cs.getD (off + j) undef)) := fun j hj c hc => by
    obtain ⟨v, hv, e, ho⟩ := hf j hj c hc
    have e2 : cs.getD (off + j) undef = v := by simp only [List.getD, hv, Option.getD_some]
    rw [e2, hv]
    exact ⟨congrArg some e, ho⟩
  have hd : ∀ j, j < 100 → cs[off + (1 + j)]? = some ((kdData j).mk (num (cs.getD (off + (1 + j)) undef))) ∧ (kdData j).ok (num (cs.getD (off + (1 + j)) undef)) := fun j hj => hg (1 + j) (by omega) (kdData j) (by unfold kdIdx; rw [if_neg (by omega), if_pos (by omega), Nat.add_sub_cancel_left])
  have hs : ∀ j, j < 96 → cs[off + (101 + j)]? = some (.int .u8 (num (cs.getD (off + (101 + j)) undef))) ∧ CK.ok .u8 (num (cs.getD (off + (101 + j)) undef)) := fun j hj => hg (101 + j) (by omega) .u8 (by unfold kdIdx; rw [if_neg (by omega), if_neg (by omega)])
  refine ⟨⟨who, fun j => num (cs.getD (off + (1 + j)) undef), fun j => num (cs.getD (off + (101 + j)) undef)⟩, ⟨hr.ok, fun j hj => (hd j hj).2, fun j hj => (hs j hj).2, by show who.length ≤ _; omega⟩, ⟨va, cap, rfl, hr⟩, ?_⟩
  have get : ∀ j, j < 197 → ((cs.drop off).take 197)[j]? = cs[off + j]? := fun j hj => by rw [List.getElem?_take_of_lt hj, List.getElem?_drop]
  exact idx_cells (by rw [List.length_take, List.length_drop]; omega) (by rw [get 0 (by decide)]; exact e0) (fun j hj => by rw [get _ (by omega)]; exact (hd j hj).1) (fun j hj => by rw [get _ (by omega)]; exact (hs j hj).1)
theorem openAts {H : Type} {enc : TypeId × Value → H} {W : World} {base : Nat} {spare : Nat → Bool} {held : Bool} {N : Nat} {fuel : Nat} {X : Array Value} {x : DataW H × List MemPlace} (h : DataW.trod enc Tryd.prog W base spare held fuel 68 X.toList = some x) (hN : Rows.uptoBulk x.1 ≤ N) (hN2 : N ≤ 1048576) : HandAts X W := by
  obtain ⟨hl, hf, ha⟩ := cells_openB kinds_Ats h hN
  obtain ⟨v0, f0, y0, e0, t0, b0⟩ := ha 0 (by decide)
  obtain ⟨v1, f1, y1, e1, t1, b1⟩ := ha 197 (by decide)
  rw [cell0_Ats] at t0
  rw [cell1_Ats] at t1
  obtain ⟨a, a1, a2, a3⟩ := ix_in (off := 0) e0 t0 b0 hN2 (by omega) (fun j hj c hc => by
    rw [Nat.zero_add]
    exact hf j (by omega) c (by unfold kdAts; rw [if_pos (by omega)]; exact hc))
  obtain ⟨b, b2, b3, b4⟩ := ix_in (off := 197) e1 t1 b1 hN2 (by omega) (fun j hj c hc => hf (197 + j) (by omega) c (by unfold kdAts; rw [if_neg (by omega), Nat.add_sub_cancel_left]; exact hc))
  refine ⟨a, b, ⟨v0, v1, ?_, a2, b3⟩, a1, b2⟩
  apply Array.toList_inj.1
  show X.toList = a.cells v0 ++ b.cells v1
  rw [← a3, ← b4, List.drop_zero]
  have e5 : (X.toList.drop 197).take 197 = X.toList.drop 197 := List.take_of_length_le (by rw [List.length_drop]; omega)
  rw [e5, List.take_append_drop]
theorem rowAts : rowB Tryd.prog 68 394 = true := by kernel_rfl
theorem lawAts_any (X : Array Value) {w : World} (hX : HandAts X w) (lb : List Int) (vb : Option Addr) (cb : Nat) (hT : Tabs w) (hb : SlB vb cb lb w) (hfew : lb.length ≤ 70368744170000) :
    Calls Tryd.prog 6 #[.agg X, .slice vb lb.length cb] w fun e w' => e = .returned (.bool true) ∧ Below w.heap.size w w' := by
  obtain ⟨a, b, hR, ha, hbo⟩ := hX
  obtain ⟨eI, a2, b2, hI⟩ := atsRd_some lb
  have h2 : a2.ok ∧ b2.ok ∧ (eI = 0 → atsL a2 b2 = lb) ∧ atsE a2 b2 = 0 := by
    by_cases e0 : eI = 0
    · subst e0
      obtain ⟨k1, k2, k3, k4⟩ := encAts_rd hb.row.ok hI
      exact ⟨k1, k2, fun _ => k4, k3⟩
    · rcases hI with ⟨_, rfl, rfl, _⟩ | ⟨rfl, _⟩
      · exact ⟨ix0_ok, ix0_ok, fun h => absurd h e0, rfl⟩
      · exact absurd rfl e0
  obtain ⟨ha2, hb2, hU, hE2⟩ := h2
  have hencU : ∀ (Y : Array Value) (W : World), RepAts a2 b2 Y W → Calls Tryd.prog 29 #[.agg Y] W fun e w' => (∃ va c, e = .returned (.tuple #[.slice va (atsL a2 b2).length c, .int .i64 0]) ∧ (va = none → c = 0) ∧ OwnB W.heap.size (.slice va (atsL a2 b2).length c) (atsL a2 b2) w') ∧ Below W.heap.size W w' := fun Y W h => by
    obtain ⟨s, t, rfl, h1, h2⟩ := h
    have h := renc_Ats a2 b2 ha2 hb2 s t W h1 h2
    rw [hE2] at h
    exact h
  exact lawg_Ats rowAts X hR.size (fun W => RepAts a b X W) (fun W1 W2 h hb => RepAts.later X W1 W2 h hb) (atsL a b) (atsL_ok ha hbo) (atsE a b) (atsR a b)
    (fun W h => by obtain ⟨s, t, rfl, h1, h2⟩ := h; exact enc_Ats a b ha hbo s t W h1 h2)
    (fun W h => by obtain ⟨s, t, rfl, h1, h2⟩ := h; exact renc_Ats a b ha hbo s t W h1 h2)
    (fun W h hT => by obtain ⟨s, t, rfl, h1, h2⟩ := h; exact root_Ats a b ha hbo s t W hT h1 h2)
    (fun W h hT => by obtain ⟨s, t, rfl, h1, h2⟩ := h; exact rroot_Ats a b ha hbo s t W hT h1 h2)
    (RepAts a b) RepAts.later
    (fun hE va c W hsl => by
      obtain ⟨a', b', hr, wa, wb, ca, cb'⟩ := atsRd_enc ha hbo hE
      exact (readAts_any _ 0 a' b' hr va c W hsl (hsl.lowA (by rw [atsL_length hE]; omega)) (by have := atsL_le a b; omega)).mono fun e w' ⟨⟨Y, k1, k2, k3, k4⟩, k5⟩ => ⟨⟨Y, k1, k2, k3, k4.congr wa wb ca cb'⟩, k5⟩)
    (fun hE Y W h => by
      obtain ⟨s, t, rfl, h1, h2⟩ := h
      have h := renc_Ats a b ha hbo s t W h1 h2
      rw [hE] at h
      exact h)
    lb vb cb w hT hR hb hfew (eI : Int) (atsL a2 b2) (atsL_ok ha2 hb2) (fun h => hU (by omega)) (RepAts a2 b2) RepAts.later
    (fun g c W hsl => readAts_any lb eI a2 b2 hI _ c W hsl hsl.lowG (by omega))
    (fun va c W hsl => rreadAts_any lb eI a2 b2 hI va c W hsl (by omega))
    hencU
end Go.Proofs.YtihelknkcomjpaaDoor
