/- The law of attestations over whatever is handed in. -/
import Derived.Test.YtihelknkcomjpaaDoorKOpenB
import Derived.Test.YtihelknkcomjpaaDoorJIxH
import Derived.Test.YtihelknkcomjpaaDoorJAtG
import Derived.Test.YtihelknkcomjpaaDoorKLgAtt
set_option linter.unusedVariables false
set_option linter.unusedSimpArgs false
set_option linter.unnecessarySimpa false
namespace Go.Proofs.YtihelknkcomjpaaDoor
open Go.ChangeShapes Go.WideShapes Go.ChangeAt Go.RowKit BigFrame
set_option maxRecDepth 100000
/-- What these bytes are read as. -/
def AttRd (l : List Int) (eI : Nat) (who : List Int) (fd fs : Nat → Int) : Prop :=
  (eI ≠ 0 ∧ who = [] ∧ fd = (fun _ => 0) ∧ fs = (fun _ => 0) ∧ (l.length < 228 ∧ eI = 4 ∨ 228 ≤ l.length ∧ offL l 0 ≠ 228 ∧ eI = 5 ∨ 228 ≤ l.length ∧ offL l 0 = 228 ∧ errR (l.drop 228) = eI)) ∨
  (eI = 0 ∧ 228 ≤ l.length ∧ offL l 0 = 228 ∧ errR (l.drop 228) = 0 ∧ who = bitsR (l.drop 228) ∧ fd = rdData ((l.drop 4).take 128) ∧ fs = fun j => l.getD (132 + j) 0)
theorem attRd_some (l : List Int) : ∃ eI who fd fs, AttRd l eI who fd fs := by
  by_cases c1 : l.length < 228
  · exact ⟨4, [], _, _, Or.inl ⟨by decide, rfl, rfl, rfl, Or.inl ⟨c1, rfl⟩⟩⟩
  · by_cases c2 : offL l 0 = 228
    · by_cases c3 : errR (l.drop 228) = 0
      · exact ⟨0, _, _, _, Or.inr ⟨rfl, by omega, c2, c3, rfl, rfl, rfl⟩⟩
      · exact ⟨errR (l.drop 228), [], _, _, Or.inl ⟨c3, rfl, rfl, rfl, Or.inr (Or.inr ⟨by omega, c2, rfl⟩)⟩⟩
    · exact ⟨5, [], _, _, Or.inl ⟨by decide, rfl, rfl, rfl, Or.inr (Or.inl ⟨by omega, c2, rfl⟩)⟩⟩
theorem BoAt.later {l : List Int} {s : Value} {W W' : World} (h : BoAt l s W) (hb : Below W.heap.size W W') : BoAt l s W' := by
  obtain ⟨va, c, h1, h2, h3⟩ := h
  exact ⟨va, c, h1, h2, h3.later hb⟩
/-- The cells of an attestation, its list standing. -/
def RepAtt (who : List Int) (fd fs : Nat → Int) (Y : Array Value) (W : World) : Prop := ∃ s, Y = (idxC s fd fs).toArray ∧ BoAt who s W
theorem RepAtt.later {who : List Int} {fd fs : Nat → Int} (Y : Array Value) (W W' : World) (h : RepAtt who fd fs Y W) (hb : Below W.heap.size W W') : RepAtt who fd fs Y W' := by
  obtain ⟨s, e, h1⟩ := h
  exact ⟨s, e, h1.later hb⟩
theorem RepAtt.size {who : List Int} {fd fs : Nat → Int} {Y : Array Value} {W : World} (h : RepAtt who fd fs Y W) : Y.size = 197 := by
  obtain ⟨s, rfl, _⟩ := h
  rw [List.size_toArray, idxC_length]
theorem RepAtt.one {who : List Int} {fd fs : Nat → Int} {Y : Array Value} {W : World} (h : RepAtt who fd fs Y W) : Y.all (·.oneCell') = true := by
  obtain ⟨s, rfl, va, c, rfl, _⟩ := h
  exact idxC_one _ _ _ _ _
theorem RepAtt.congr {who : List Int} {fd fs fd' fs' : Nat → Int} {Y : Array Value} {W : World} (h : RepAtt who fd fs Y W) (hd : ∀ j, j < 100 → fd j = fd' j) (hs : ∀ j, j < 96 → fs j = fs' j) : RepAtt who fd' fs' Y W := by
  obtain ⟨s, e, h1⟩ := h
  refine ⟨s, ?_, h1⟩
  rw [e]
  unfold idxC
  rw [fcells_congr (N := 100) (kd := kdData) hd, fcells_congr (N := 96) (kd := fun _ => .u8) hs]
theorem rep_zeroA (W : World) : RepAtt [] (fun _ => 0) (fun _ => 0) (idxC (.slice none 0 0) (fun _ => 0) (fun _ => 0)).toArray W := ⟨_, rfl, none, 0, rfl, fun _ => rfl, row_nil⟩
theorem readAtt_any (l : List Int) (eI : Nat) (who : List Int) (fd fs : Nat → Int) (hR : AttRd l eI who fd fs) (va : Option Addr) (c : Nat) (w : World) (hs : SlB va c l w) (hlow : ∀ ad, va = some ad → ad.block < w.heap.size) (hfew : l.length < 4294967296) :
    Calls Tryd.prog 37 #[.slice va l.length c] w fun e w' => (∃ Y : Array Value, e = .returned (.tuple #[.agg Y, .int .i64 (eI : Int)]) ∧ Y.size = 197 ∧ Y.all (·.oneCell') = true ∧ RepAtt who fd fs Y w') ∧ Below w.heap.size w w' := by
  rcases hR with ⟨h0, rfl, rfl, rfl, h⟩ | ⟨rfl, hl, ho, hE, rfl, rfl, rfl⟩
  · have key : ∀ e' : Ending, e' = .returned (.tuple #[.agg (idxC (.slice none 0 0) (fun _ => 0) (fun _ => 0)).toArray, .int .i64 (eI : Int)]) → ∀ w', ∃ Y : Array Value, e' = .returned (.tuple #[.agg Y, .int .i64 (eI : Int)]) ∧ Y.size = 197 ∧ Y.all (·.oneCell') = true ∧ RepAtt [] (fun _ => 0) (fun _ => 0) Y w' :=
      fun e' he w' => ⟨_, he, (rep_zeroA w').size, (rep_zeroA w').one, rep_zeroA w'⟩
    rcases h with ⟨h1, rfl⟩ | ⟨h1, h2, rfl⟩ | ⟨h1, h2, h3⟩
    · exact (readAtt_short l l.length va c w hs rfl hlow h1).mono fun e w' ⟨he, hb⟩ => ⟨key e he w', hb⟩
    · exact (readAtt_form l l.length va c w hs rfl hlow h1 (by omega) h2).mono fun e w' ⟨he, hb⟩ => ⟨key e he w', hb⟩
    · exact (readAtt_list l l.length va c w hs rfl hlow h1 hfew h2 eI h3 h0).mono fun e w' ⟨he, hb⟩ => ⟨key e he w', hb⟩
  · refine (readAtt_ok l l.length (l.length-228) va c w hs rfl (by omega) hfew ho hE).mono fun e w' ⟨⟨s, he, hO⟩, hb⟩ => ⟨?_, hb⟩
    have hY : RepAtt (bitsR (l.drop 228)) (rdData ((l.drop 4).take 128)) (fun j => l.getD (132 + j) 0) (idxC s (rdData ((l.drop 4).take 128)) (fun j => l.getD (132 + j) 0)).toArray w' := ⟨s, rfl, hO.at⟩
    exact ⟨_, he, hY.size, hY.one, hY⟩
theorem rreadAtt_any (l : List Int) (eI : Nat) (who : List Int) (fd fs : Nat → Int) (hR : AttRd l eI who fd fs) (va : Option Addr) (c : Nat) (w : World) (hs : SlB va c l w) (hfew : l.length < 4294967296) :
    Calls Tryd.prog 38 #[.slice va l.length c] w fun e w' => (∃ Y : Array Value, e = .returned (.tuple #[.agg Y, .int .i64 (eI : Int)]) ∧ Y.size = 197 ∧ Y.all (·.oneCell') = true ∧ RepAtt who fd fs Y w') ∧ Below w.heap.size w w' := by
  rcases hR with ⟨h0, rfl, rfl, rfl, h⟩ | ⟨rfl, hl, ho, hE, rfl, rfl, rfl⟩
  · have key : ∀ e' : Ending, e' = .returned (.tuple #[.agg (idxC (.slice none 0 0) (fun _ => 0) (fun _ => 0)).toArray, .int .i64 (eI : Int)]) → ∀ w', ∃ Y : Array Value, e' = .returned (.tuple #[.agg Y, .int .i64 (eI : Int)]) ∧ Y.size = 197 ∧ Y.all (·.oneCell') = true ∧ RepAtt [] (fun _ => 0) (fun _ => 0) Y w' :=
      fun e' he w' => ⟨_, he, (rep_zeroA w').size, (rep_zeroA w').one, rep_zeroA w'⟩
    rcases h with ⟨h1, rfl⟩ | ⟨h1, h2, rfl⟩ | ⟨h1, h2, h3⟩
    · exact (rreadAtt_short l l.length va c w hs rfl h1).mono fun e w' ⟨he, hb⟩ => ⟨key e he w', hb⟩
    · exact (rreadAtt_form l l.length va c w hs rfl h1 (by omega) h2).mono fun e w' ⟨he, hb⟩ => ⟨key e he w', hb⟩
    · exact (rreadAtt_list l l.length (l.length-228) va c w hs rfl (by omega) (by omega) h2 eI hfew h3 h0).mono fun e w' ⟨he, hb⟩ => ⟨key e he w', hb⟩
  · refine (rreadAtt_ok l l.length (l.length-228) va c w hs rfl (by omega) hfew ho hE).mono fun e w' ⟨⟨s, he, hO⟩, hb⟩ => ⟨?_, hb⟩
    have hY : RepAtt (bitsR (l.drop 228)) (rdData ((l.drop 4).take 128)) (fun j => l.getD (132 + j) 0) (idxC s (rdData ((l.drop 4).take 128)) (fun j => l.getD (132 + j) 0)).toArray w' := ⟨s, rfl, hO.at⟩
    exact ⟨_, he, hY.size, hY.one, hY⟩
/-! What is written is read, what is read is written. -/
theorem encAtt_rd {l : List Int} {who : List Int} {fd fs : Nat → Int} (hok : ∀ x ∈ l, CK.ok .u8 x) (h : AttRd l 0 who fd fs) : encLAtt who fd fs = l ∧ who.length ≤ 64 ∧ (∀ j, j < 100 → (kdData j).ok (fd j)) ∧ ∀ j, j < 96 → CK.ok .u8 (fs j) := by
  rcases h with ⟨h0, _⟩ | ⟨_, hl, ho, hE, rfl, rfl, rfl⟩
  · exact absurd rfl h0
  · obtain ⟨z1, z2, z3⟩ := errR_zero hE
    have h4 : ((l.drop 4).take 128).length = 128 := by rw [List.length_take, List.length_drop]; rw [List.length_drop] at z1; omega
    refine ⟨?_, by rw [bitsR_length hE]; exact z3, rdok_Data h4 (take_ok hok _ _), fun j _ => list_isB hok _⟩
    have hb : bitsR (l.drop 228) = bitsL (l.drop 228) (lenR (l.drop 228)) := by unfold bitsR; rw [if_pos hE]
    have hl2 : 228 < l.length := by rw [List.length_drop] at z1; omega
    unfold encLAtt
    rw [hb, listB_rd (fun x hx => hok x (List.mem_of_mem_drop hx)) z1 z2, encrd_Data _ h4 (take_ok hok _ _), byL_rd _ l 0 132 96 (fun j _ => by rw [Nat.zero_add]) (by omega)]
    rw [show le4 228 = l.take 4 from (four_bytes hok (by omega) 228 ho).symm]
    rw [List.append_assoc, cat_next l 132 96 228 (by decide), List.append_assoc, cat_next l 4 128 132 (by decide), List.take_append_drop]
theorem offL_encAtt (who : List Int) (fd fs : Nat → Int) : offL (encLAtt who fd fs) 0 = 228 := by
  unfold offL
  have e : rdI (fun j => (encLAtt who fd fs).getD (0 + j) 0) 4 = rdI (fun j => (le4 228).getD j 0) 4 := rdI_ext 4 fun j hj => by
    rw [Nat.zero_add]
    simp only [encLAtt, List.append_assoc, List.getD]
    rw [List.getElem?_append_left (by rw [le4_length]; exact hj)]
  rw [e]
  decide
theorem attRd_enc {who : List Int} {fd fs : Nat → Int} (hk : who.length ≤ 64) (hw : ∀ m ∈ who, CK.ok .bool m) (hd : ∀ j, j < 100 → (kdData j).ok (fd j)) (hs : ∀ j, j < 96 → CK.ok .u8 (fs j)) :
    ∃ fd' fs', AttRd (encLAtt who fd fs) 0 who fd' fs' ∧ (∀ j, j < 100 → fd' j = fd j) ∧ ∀ j, j < 96 → fs' j = fs j := by
  have hlen := encAtt_length who fd fs
  have e228 : (encLAtt who fd fs).drop 228 = listB who := by
    unfold encLAtt
    rw [List.drop_left' (by simp [le4_length, encData_length, byL_length])]
  have e4 : ((encLAtt who fd fs).drop 4).take 128 = encLData fd := by
    rw [show encLAtt who fd fs = le4 228 ++ (encLData fd ++ (byL fs 0 96 ++ listB who)) by simp [encLAtt]]
    exact drop_take_mid _ _ _ 4 128 rfl (encData_length _)
  have e132 : ((encLAtt who fd fs).drop 132).take 96 = byL fs 0 96 := by
    rw [show encLAtt who fd fs = (le4 228 ++ encLData fd) ++ (byL fs 0 96 ++ listB who) by simp [encLAtt]]
    exact drop_take_mid _ _ _ 132 96 (by simp [le4_length, encData_length]) (byL_length _ _ _)
  refine ⟨_, _, Or.inr ⟨rfl, by omega, offL_encAtt _ _ _, by rw [e228]; exact errR_listB hk, by rw [e228, bitsR_listB hk hw], rfl, rfl⟩, fun j hj => ?_, fun j hj => ?_⟩
  · rw [e4]
    exact rdenc_Data fd hd j hj
  · show (encLAtt who fd fs).getD (132 + j) 0 = fs j
    rw [← drop_take_get _ 132 96 j hj, e132, byL_get _ _ _ _ hj, Nat.zero_add]
theorem kd_cB : kdB Tryd.prog 10 4 1 (fun _ => .bool) = true := by kernel_rfl
theorem sz_cB : Tryd.prog.cellsOf 4 = 1 := by kernel_rfl
def kdIdx (j : Nat) : Option CK := if j = 0 then none else if j < 101 then some (kdData (j - 1)) else some .u8
/-- What is handed in. -/
def HandAtt (X : Array Value) (W : World) : Prop :=
  ∃ who fd fs, RepAtt who fd fs X W ∧ (∀ m ∈ who, CK.ok .bool m) ∧ (∀ j, j < 100 → (kdData j).ok (fd j)) ∧ (∀ j, j < 96 → CK.ok .u8 (fs j)) ∧ who.length ≤ 1048576
theorem kinds_Att : kindsB Tryd.prog 76 197 kdIdx = true := by kernel_rfl
theorem cell0_Att : (cellTs Tryd.prog 76).getD 0 0 = 74 := by kernel_rfl
theorem idx_cells {xs : List Value} {v0 : Value} {fd fs : Nat → Int} (hl : xs.length = 197) (h0 : xs[0]? = some v0) (h1 : ∀ j, j < 100 → xs[1 + j]? = some ((kdData j).mk (fd j))) (h2 : ∀ j, j < 96 → xs[101 + j]? = some (.int .u8 (fs j))) : xs = idxC v0 fd fs := by
  apply List.ext_getElem?
  intro i
  by_cases c0 : i = 0
  · subst c0; rw [h0]; rfl
  · by_cases c1 : i < 101
    · obtain ⟨j, rfl⟩ : ∃ j, i = 1 + j := ⟨i - 1, by omega⟩
      rw [h1 j (by omega)]
      unfold idxC
      rw [Nat.add_comm, List.getElem?_cons_succ, List.getElem?_append_left (by rw [fcells_length]; omega), fcells_get _ _ _ _ (by omega)]
    · by_cases c2 : i < 197
      · obtain ⟨j, rfl⟩ : ∃ j, i = 101 + j := ⟨i - 101, by omega⟩
        rw [h2 j (by omega)]
        unfold idxC
        rw [show 101 + j = (100 + j) + 1 by omega, List.getElem?_cons_succ, List.getElem?_append_right (by rw [fcells_length]; omega), fcells_length, Nat.add_sub_cancel_left, fcells_get _ _ _ _ (by omega)]
        rfl
      · rw [List.getElem?_eq_none (by omega), List.getElem?_eq_none (by rw [idxC_length]; omega)]
theorem nil_open {H : Type} {enc : TypeId × Value → H} {W : World} {base : Nat} {spare : Nat → Bool} {held : Bool} {t e : TypeId} (hu : Tryd.prog.underlying t = some (.slice e)) {fuel : Nat} {va : Option Addr} {n cap : Nat} {x : DataW H × List MemPlace} (h : DataW.trod enc Tryd.prog W base spare held fuel t [.slice va n cap] = some x) : va = none → cap = 0 := fun hv => by
  subst hv
  rcases Go.Deep.open_slice hu h with ⟨e, _⟩ | ⟨a, len, cap', m, n', D, Pl, e, _⟩
  · injection e with e1 _
    injection e1
  · injection e with e1 _
    injection e1 with e2 _ _
    cases e2
theorem openAtt {H : Type} {enc : TypeId × Value → H} {W : World} {base : Nat} {spare : Nat → Bool} {held : Bool} {N : Nat} {fuel : Nat} {X : Array Value} {x : DataW H × List MemPlace} (h : DataW.trod enc Tryd.prog W base spare held fuel 76 X.toList = some x) (hN : Rows.uptoBulk x.1 ≤ N) (hN2 : N ≤ 1048576) : HandAtt X W := by
  obtain ⟨hl, hf, ha⟩ := cells_openB kinds_Att h hN
  obtain ⟨v0, f0, y0, e0, t0, b0⟩ := ha 0 (by decide)
  rw [cell0_Att] at t0
  obtain ⟨va, cap, who, rfl, hr, hb⟩ := row_openB Tryd.underlying74 kd_cB sz_cB t0
  have hcap := nil_open Tryd.underlying74 t0
  have hg : ∀ j, j < 197 → ∀ c, kdIdx j = some c → X.toList[j]? = some (c.mk (num (X.toList.getD j undef))) ∧ c.ok (num (X.toList.getD j undef)) := fun j hj c hc => by
    obtain ⟨v, hv, e, ho⟩ := hf j hj c hc
    have e2 : X.toList.getD j undef = v := by simp only [List.getD, hv, Option.getD_some]
    rw [e2, hv]
    exact ⟨congrArg some e, ho⟩
  have hd : ∀ j, j < 100 → X.toList[1 + j]? = some ((kdData j).mk (num (X.toList.getD (1 + j) undef))) ∧ (kdData j).ok (num (X.toList.getD (1 + j) undef)) := fun j hj => hg (1 + j) (by omega) (kdData j) (by unfold kdIdx; rw [if_neg (by omega), if_pos (by omega), Nat.add_sub_cancel_left])
  have hs : ∀ j, j < 96 → X.toList[101 + j]? = some (.int .u8 (num (X.toList.getD (101 + j) undef))) ∧ CK.ok .u8 (num (X.toList.getD (101 + j) undef)) := fun j hj => hg (101 + j) (by omega) .u8 (by unfold kdIdx; rw [if_neg (by omega), if_neg (by omega)])
  refine ⟨who, fun j => num (X.toList.getD (1 + j) undef), fun j => num (X.toList.getD (101 + j) undef), ⟨_, ?_, va, cap, rfl, hcap, hr⟩, hr.ok, fun j hj => (hd j hj).2, fun j hj => (hs j hj).2, by omega⟩
  apply Array.toList_inj.1
  exact idx_cells hl e0 (fun j hj => (hd j hj).1) (fun j hj => (hs j hj).1)
theorem rowAtt : rowB Tryd.prog 76 197 = true := by kernel_rfl
/-- What both encoders, and both hashers, answer for what stands so. -/
theorem encs_Att {who : List Int} {fd fs : Nat → Int} (hd : ∀ j, j < 100 → (kdData j).ok (fd j)) (hs : ∀ j, j < 96 → CK.ok .u8 (fs j)) (hk : who.length ≤ 64) {X : Array Value} {W : World} (h : RepAtt who fd fs X W) :
    (Calls Tryd.prog 33 #[.agg X] W fun e w' => (∃ va c, e = .returned (.tuple #[.slice va (encLAtt who fd fs).length c, .int .i64 0]) ∧ (va = none → c = 0) ∧ OwnB W.heap.size (.slice va (encLAtt who fd fs).length c) (encLAtt who fd fs) w') ∧ Below W.heap.size W w') ∧
    Calls Tryd.prog 35 #[.agg X] W fun e w' => (∃ va c, e = .returned (.tuple #[.slice va (encLAtt who fd fs).length c, .int .i64 0]) ∧ (va = none → c = 0) ∧ OwnB W.heap.size (.slice va (encLAtt who fd fs).length c) (encLAtt who fd fs) w') ∧ Below W.heap.size W w' := by
  obtain ⟨s, rfl, vn, cn, rfl, hcn, hr⟩ := h
  rw [encAtt_length]
  exact ⟨enc_Att who who.length vn cn fd fs hd hs W hr rfl hk, renc_Att who who.length vn cn fd fs hd hs W hr hcn rfl hk⟩
theorem nil_ownA {base : Nat} {w : World} : OwnB base (.slice none 0 0) [] w := OwnB.nil _ _
theorem lawAtt_any (X : Array Value) {w : World} (hX : HandAtt X w) (lb : List Int) (vb : Option Addr) (cb : Nat) (hT : Tabs w) (hb : SlB vb cb lb w) (hfew0 : lb.length ≤ 1048576) :
    Calls Tryd.prog 7 #[.agg X, .slice vb lb.length cb] w fun e w' => e = .returned (.bool true) ∧ Below w.heap.size w w' := by
  have hfew : lb.length ≤ 70368744170000 := by omega
  obtain ⟨who, fd, fs, hR, hw, hd, hs, hn⟩ := hX
  obtain ⟨eI, who2, fd2, fs2, hI⟩ := attRd_some lb
  have hz : ∀ j, j < 100 → (kdData j).ok 0 := fun j hj => zero_Data j hj
  have h2 : who2.length ≤ 64 ∧ (∀ j, j < 100 → (kdData j).ok (fd2 j)) ∧ (∀ j, j < 96 → CK.ok .u8 (fs2 j)) ∧ (eI = 0 → encLAtt who2 fd2 fs2 = lb) := by
    by_cases e0 : eI = 0
    · subst e0
      obtain ⟨k1, k2, k4, k5⟩ := encAtt_rd hb.row.ok hI
      exact ⟨k2, k4, k5, fun _ => k1⟩
    · rcases hI with ⟨_, rfl, rfl, rfl, _⟩ | ⟨rfl, _⟩
      · exact ⟨by decide, hz, fun j hj => (⟨by decide, by decide⟩ : CK.ok .u8 0), fun h => absurd h e0⟩
      · exact absurd rfl e0
  obtain ⟨h64, hd2, hs2, hU⟩ := h2
  have hrd : ∀ (va : Option Addr) (c : Nat) (W : World), SlB va c lb W → (∀ ad, va = some ad → ad.block < W.heap.size) → Calls Tryd.prog 37 #[.slice va lb.length c] W fun e w' => (∃ Y : Array Value, e = .returned (.tuple #[.agg Y, .int .i64 (eI : Int)]) ∧ Y.size = 197 ∧ Y.all (·.oneCell') = true ∧ RepAtt who2 fd2 fs2 Y w') ∧ Below W.heap.size W w' :=
    fun va c W hs hl => readAtt_any lb eI who2 fd2 fs2 hI va c W hs hl (by omega)
  by_cases hk : who.length ≤ 64
  · obtain ⟨fd', fs', hE, hfd, hfs⟩ := attRd_enc hk hw hd hs
    exact lawg_Att rowAtt X hR.size (fun W => RepAtt who fd fs X W) (fun W1 W2 h hb => RepAtt.later X W1 W2 h hb) (encLAtt who fd fs) (encAtt_ok hd hs) 0 (rootAtt who fd fs)
      (fun W h => (encs_Att hd hs hk h).1) (fun W h => (encs_Att hd hs hk h).2)
      (fun W h hT => by obtain ⟨s, rfl, vn, cn, rfl, hcn, hr⟩ := h; exact root_Att who who.length vn cn fd fs hd hs W hT hr rfl hk)
      (fun W h hT => by obtain ⟨s, rfl, vn, cn, rfl, hcn, hr⟩ := h; exact rroot_Att who who.length vn cn fd fs hd hs W hT hr rfl hk)
      (RepAtt who fd fs) RepAtt.later
      (fun _ va c W hsl => (readAtt_any _ 0 who fd' fs' hE va c W hsl (hsl.lowA (by rw [encAtt_length]; omega)) (by rw [encAtt_length]; omega)).mono fun e w' ⟨⟨Y, k1, k2, k3, k4⟩, k5⟩ => ⟨⟨Y, k1, k2, k3, k4.congr hfd hfs⟩, k5⟩)
      (fun _ Y W h => (encs_Att hd hs hk h).2)
      lb vb cb w hT hR hb hfew (eI : Int) (encLAtt who2 fd2 fs2) (encAtt_ok hd2 hs2) (fun h => hU (by omega)) (RepAtt who2 fd2 fs2) RepAtt.later
      (fun g c W hsl => hrd _ c W hsl hsl.lowG)
      (fun va c W hsl => rreadAtt_any lb eI who2 fd2 fs2 hI va c W hsl (by omega))
      (fun Y W h => (encs_Att hd2 hs2 h64 h).2)
  · exact lawg_Att rowAtt X hR.size (fun W => RepAtt who fd fs X W) (fun W1 W2 h hb => RepAtt.later X W1 W2 h hb) [] (fun m hm => by simp at hm) 6 zeroR
      (fun W h => by obtain ⟨s, rfl, vn, cn, rfl, hcn, hr⟩ := h; exact (encL_Att who who.length vn cn fd fs hd hs W hr rfl (by omega) (by omega)).mono fun e w' ⟨k1, k2⟩ => ⟨⟨none, 0, k1, fun _ => rfl, nil_ownA⟩, k2⟩)
      (fun W h => by obtain ⟨s, rfl, vn, cn, rfl, hcn, hr⟩ := h; exact (rencL_Att who who.length vn cn fd fs hd hs W hr rfl (by omega) (by omega)).mono fun e w' ⟨k1, k2⟩ => ⟨⟨none, 0, k1, fun _ => rfl, nil_ownA⟩, k2⟩)
      (fun W h hT => by obtain ⟨s, rfl, vn, cn, rfl, hcn, hr⟩ := h; exact rootL_Att who who.length vn cn fd fs hd hs W hT hr rfl (by omega))
      (fun W h hT => by obtain ⟨s, rfl, vn, cn, rfl, hcn, hr⟩ := h; exact rrootL_Att who who.length vn cn fd fs hd hs W hT hr rfl (by omega))
      (RepAtt who fd fs) RepAtt.later (fun h => by cases h) (fun h => by cases h)
      lb vb cb w hT hR hb hfew (eI : Int) (encLAtt who2 fd2 fs2) (encAtt_ok hd2 hs2) (fun h => hU (by omega)) (RepAtt who2 fd2 fs2) RepAtt.later
      (fun g c W hsl => hrd _ c W hsl hsl.lowG)
      (fun va c W hsl => rreadAtt_any lb eI who2 fd2 fs2 hI va c W hsl (by omega))
      (fun Y W h => (encs_Att hd2 hs2 h64 h).2)
end Go.Proofs.YtihelknkcomjpaaDoor
