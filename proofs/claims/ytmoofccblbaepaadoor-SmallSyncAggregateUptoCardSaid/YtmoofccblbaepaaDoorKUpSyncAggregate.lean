import Derived.Test.YtmoofccblbaepaaDoorJUpS
import Derived.Test.YtmoofccblbaepaaDoorKLwSyncAggregate
set_option linter.unusedVariables false
set_option linter.unusedSimpArgs false
set_option linter.unnecessarySimpa false
/- The law of the small container SyncAggregate, where what comes in is of bulk at most 1048576. -/
namespace Go.Proofs.YtmoofccblbaepaaDoor
open Go.ChangeShapes Go.WideShapes Go.ChangeAt Go.RowKit BigFrame
set_option maxRecDepth 100000
theorem kdb_SyncAggregate : kdB Tryd.prog 10 120 104 kdSyncAggregate = true := by kernel_rfl
theorem zeroSyncAggregate (j : Nat) (_ : j < 104) : (kdSyncAggregate j).ok 0 := by
  unfold kdSyncAggregate
  repeat' split
  all_goals first
    | exact ⟨by decide, by decide⟩
    | exact Or.inl rfl
/-- The law, whatever the struct and the bytes. -/
theorem smallSyncAggregate_any (f : Nat → Int) (hf : ∀ j, j < 104 → (kdSyncAggregate j).ok (f j)) (lb : List Int) (vb : Option Addr) (cb : Nat) (w : World) (hT : Tabs w) (hb : SlB vb cb lb w) (hfew : lb.length ≤ 70368744170000) :
    Calls Tryd.prog 12 #[.agg (fcells 104 kdSyncAggregate f).toArray, .slice vb lb.length cb] w fun e w' => e = .returned (.bool true) ∧ Below w.heap.size w w' := by
  by_cases hl : lb.length = 97
  · exact lw_SyncAggregate f hf lb vb cb w hT hb hfew (rdSyncAggregate lb) 0 lb (fun j hj => rdok_SyncAggregate hl hb.row.ok j hj) (encrd_SyncAggregate lb hl hb.row.ok) (fun _ => rfl)
      (fun g c W hs => by have h := readSyncAggregate_ok lb _ c W hs.row hs.cap hs.nil hs.lowG hl; rw [hl]; exact h)
      (fun va c W hs => by have h := rreadSyncAggregate_ok lb va c W hs hl; rw [hl]; exact h)
  · exact lw_SyncAggregate f hf lb vb cb w hT hb hfew (fun _ => 0) 4 _ (fun j hj => zeroSyncAggregate j hj) rfl (fun h => by cases h)
      (fun g c W hs => by exact readSyncAggregate_bad lb _ c W hs.row hs.cap hs.nil hs.lowG hl (by omega))
      (fun va c W hs => by exact rreadSyncAggregate_bad lb va c W hs hl)
theorem wit_SyncAggregate (w : World) : Value.okWideB Tryd.prog w 120 (.agg (zeroOf Tryd.prog 120)) = true := okWideB_agg Tryd.underlying120 rfl (by kernel_rfl) (by kernel_rfl)
theorem someSyncAggregate (os : Os) {H : Type} (enc : TypeId × Value → H) : (DataW.whole enc Tryd.prog ((tabWorld os).forCall (fun _ _ => 0) ⟨#[], #[.agg (zeroOf Tryd.prog 120), .slice none 0 0], []⟩).memory Tryd.f12.params.toList Rows.smallSyncAggregateSpec.vars false #[Value.agg (zeroOf Tryd.prog 120), .slice none 0 0].toList 12).isSome = true := by kernel_rfl
theorem fewSyncAggregate (os : Os) {H : Type} (enc : TypeId × Value → H) : Rows.uptoSmall H (((DataW.whole enc Tryd.prog ((tabWorld os).forCall (fun _ _ => 0) ⟨#[], #[.agg (zeroOf Tryd.prog 120), .slice none 0 0], []⟩).memory Tryd.f12.params.toList Rows.smallSyncAggregateSpec.vars false #[Value.agg (zeroOf Tryd.prog 120), .slice none 0 0].toList 12).getD ([], [], [])).1 ++ ((DataW.whole enc Tryd.prog ((tabWorld os).forCall (fun _ _ => 0) ⟨#[], #[.agg (zeroOf Tryd.prog 120), .slice none 0 0], []⟩).memory Tryd.f12.params.toList Rows.smallSyncAggregateSpec.vars false #[Value.agg (zeroOf Tryd.prog 120), .slice none 0 0].toList 12).getD ([], [], [])).2.1) = true := by kernel_rfl
set_option maxHeartbeats 4000000 in
theorem liftedSyncAggregate (os : Os) (started : os.Started) (H : Type) (enc : TypeId × Value → H) (F : Stop.Interp) :
    ReturnsInHanded {} Tryd.checked os 12 .any ((Rows.OpenSpec.upto Rows.smallSyncAggregateSpec).preRow enc Tryd.prog Tryd.f12 Rows.smallSyncAggregateUptoRow.domain false Rows.smallSyncAggregateUptoRow.laid) (((Rows.OpenSpec.upto Rows.smallSyncAggregateSpec).at F).post enc Tryd.prog Tryd.f12 false true false false) := by
  obtain ⟨x, hx⟩ := Option.isSome_iff_exists.1 (someSyncAggregate os enc)
  have hk := fewSyncAggregate os enc
  rw [hx] at hk
  refine returnsInHanded_of_row (C := Tryd.checked) (s := Rows.OpenSpec.upto Rows.smallSyncAggregateSpec) Tryd.own started (by kernel_rfl) Tryd.func12
    (witness_row_at (enc := enc) (C := Tryd.checked) false (tabWorld os) #[.agg (zeroOf Tryd.prog 120), .slice none 0 0] rfl (by kernel_rfl) (by kernel_rfl) (wit_two _ _ Tryd.f12 _ _ (wit_SyncAggregate _) (wit_nil _) (by kernel_rfl) Tryd.func12 (by kernel_rfl) Tryd.params12)
      (OpenSpec.preRow_of_cond 12 hx rfl (fun k hk1 => by cases hk1; exact hk) (by kernel_rfl) (tab_met os _))) ?_
  intro W base args ds gs before hval0 hW _ hcond _ hL _ _
  have hval : ∀ (j : Nat) t v, Tryd.f12.params[j]? = some t → args[j]? = some v → Value.okWide Tryd.prog W .any base t v := hval0
  have hW' := hW
  obtain ⟨p, q, hA0, hV, rfl, hfz, hnd⟩ := hW
  have hA : DataW.TrodAll enc Tryd.prog W 0 (fun _ => true) true Tryd.f12.params.toList args.toList ds p := hA0
  rw [Tryd.params12] at hA hval
  obtain ⟨v0, v1, d0, d1, p0, p1, rfl, rfl, rfl, h0, h1⟩ := trodAll_two hA
  obtain ⟨rfl, rfl⟩ := trodVars_none hV
  obtain ⟨xs, rfl, _⟩ := okWide_struct Tryd.underlying120 (hval 0 120 v0 rfl rfl)
  have hv1 := hval 1 25 v1 rfl rfl
  obtain ⟨n0, t0⟩ := h0
  obtain ⟨n1, t1⟩ := h1
  obtain ⟨f, rfl, hf⟩ := flat_args kdb_SyncAggregate t0
  obtain ⟨sa, sl, sc, rfl⟩ := okWide_slice Tryd.underlying25 hv1
  obtain ⟨vb, cb, lb, hve, hb, hbk⟩ := bytes_open (v := .slice sa sl sc) t1 hv1
  cases hve
  have k0 : DataW.Trod enc Tryd.prog W 0 (fun _ => true) true 120 (.agg (fcells 104 kdSyncAggregate f).toArray) d0 p0 := ⟨n0, t0⟩
  have k1 : DataW.Trod enc Tryd.prog W 0 (fun _ => true) true 25 (.slice sa lb.length sc) d1 p1 := ⟨n1, t1⟩
  have hsum := of_decide_eq_true (hcond _ rfl)
  have hfew : lb.length ≤ 70368744170000 := by
    simp only [List.append_nil, Rows.uptoBulkAll] at hsum hbk
    omega
  clear hA0 hval0
  simp only [List.append_nil] at hW'
  have hlt := hW'.lt
  refine (smallSyncAggregate_any f hf lb sa sc W (tabs_of hL) hb hfew).mono fun e W' ⟨he, hb⟩ => ?_
  subst he
  refine ⟨_, rfl, post_of_below (pa := p0 ++ p1) (pv := []) hW' (fun _ _ _ => trodAll_mk1 (shut_bool Tryd.underlying4 _)) (fun sp hsp => ?_) (fun _ _ => rfl) (by simp) hb (ok_one (by kernel_rfl) rfl (okWide_bool_mk Tryd.underlying4 _))⟩
  exact trodAll_mk2 (WideElems.Trod_stays Tryd.laidOut (by kernel_rfl) (of_decide_eq_true (by kernel_rfl)) k0 (fun x hx => hb.same (hlt x (by simp [hx]))) (fun x hx => hsp x (by simp [hx])))
    (WideElems.Trod_stays Tryd.laidOut (by kernel_rfl) (of_decide_eq_true (by kernel_rfl)) k1 (fun x hx => hb.same (hlt x (by simp [hx]))) (fun x hx => hsp x (by simp [hx])))
theorem saidSyncAggregate : Rows.SmallSyncAggregateUptoSaid :=
  OpenClaim.holds_of_cond 12 Tryd.f12 rfl rfl rfl rfl rfl rfl rfl ⟨rfl, rfl, rfl, rfl, rfl⟩ rfl rfl rfl rfl rfl (by kernel_rfl) Tryd.func12 (by kernel_rfl)
    (of_decide_eq_true (by kernel_rfl)) (by unfold Func.isWrapper; first | (rw [if_pos (by decide +kernel)]; kernel_rfl) | (rw [if_neg (by decide +kernel)]; exact ⟨rfl, rfl⟩))
    (fun os started H enc _ F => by rw [OpenClaim.pre_eq_preRow]; exact liftedSyncAggregate os started H enc F)
theorem plainSyncAggregate (f : FuncId) (fn : Func) (hf : Tryd.pinned.checked.prog.funcNamed "pharos/pharoslaw07.SmallSyncAggregate" = some f) (hfn : Tryd.pinned.checked.prog.funcs[f]? = some fn) :
    false = Tryd.pinned.checked.prog.looks [] ∧ ∀ (j : Nat) t, fn.params[j]? = some t → Tryd.pinned.checked.prog.wantsStandIn t = false := by
  obtain rfl : f = 12 := Option.some.inj ((show Tryd.prog.funcNamed "pharos/pharoslaw07.SmallSyncAggregate" = some 12 by kernel_rfl).symm.trans hf) |>.symm
  obtain rfl : fn = Tryd.f12 := (Option.some.inj (Tryd.func12.symm.trans hfn)).symm
  refine ⟨by kernel_rfl, fun j t ht => ?_⟩
  rw [Tryd.params12] at ht
  have h2 : t = 120 ∨ t = 25 := by simpa using Array.mem_of_getElem? ht
  rcases h2 with rfl | rfl
  · exact (show Tryd.prog.wantsStandIn 120 = false by kernel_rfl)
  · exact (show Tryd.prog.wantsStandIn 25 = false by kernel_rfl)
/-- The card. -/
theorem cardSyncAggregate : Rows.SmallSyncAggregateUptoCardSaid :=
  Claim7.holds_tied_plain_at .later [] _ _ _ _ saidSyncAggregate (fun _ h => by cases h) (by kernel_rfl) (fun _ h => by cases h) smallSyncAggregateUpto_row_tie rfl ⟨rfl, rfl⟩ (by kernel_rfl) rfl plainSyncAggregate (by kernel_rfl)
#print axioms cardSyncAggregate
end Go.Proofs.YtmoofccblbaepaaDoor
