/- The law pharoslaw08.OperAttest, where what comes in is of bulk at most 1048576: it answers true, and what was handed in stays. The card says it of the program's text. -/
import Derived.Test.YtihelknkcomjpaaDoorKAnyAtt
set_option linter.unusedVariables false
set_option linter.unusedSimpArgs false
set_option linter.unnecessarySimpa false
namespace Go.Proofs.YtihelknkcomjpaaDoor
open Go.ChangeShapes Go.WideShapes Go.ChangeAt Go.RowKit BigFrame
set_option maxRecDepth 100000
theorem wit_Attest (w : World) : Value.okWideB Tryd.prog w 76 (.agg (zeroOf Tryd.prog 76)) = true := okWideB_agg Tryd.underlying76 rfl (by kernel_rfl) (by kernel_rfl)
theorem someAttest (os : Os) {H : Type} (enc : TypeId × Value → H) : (DataW.whole enc Tryd.prog ((tabWorld os).forCall (fun _ _ => 0) ⟨#[], #[.agg (zeroOf Tryd.prog 76), .slice none 0 0], []⟩).memory Tryd.f7.params.toList Rows.operAttestSpec.vars false #[Value.agg (zeroOf Tryd.prog 76), .slice none 0 0].toList 12).isSome = true := by kernel_rfl
theorem fewAttest (os : Os) {H : Type} (enc : TypeId × Value → H) : Rows.uptoSmall H (((DataW.whole enc Tryd.prog ((tabWorld os).forCall (fun _ _ => 0) ⟨#[], #[.agg (zeroOf Tryd.prog 76), .slice none 0 0], []⟩).memory Tryd.f7.params.toList Rows.operAttestSpec.vars false #[Value.agg (zeroOf Tryd.prog 76), .slice none 0 0].toList 12).getD ([], [], [])).1 ++ ((DataW.whole enc Tryd.prog ((tabWorld os).forCall (fun _ _ => 0) ⟨#[], #[.agg (zeroOf Tryd.prog 76), .slice none 0 0], []⟩).memory Tryd.f7.params.toList Rows.operAttestSpec.vars false #[Value.agg (zeroOf Tryd.prog 76), .slice none 0 0].toList 12).getD ([], [], [])).2.1) = true := by kernel_rfl
set_option maxHeartbeats 4000000 in
theorem liftedAttest (os : Os) (started : os.Started) (H : Type) (enc : TypeId × Value → H) (F : Stop.Interp) :
    ReturnsInHanded {} Tryd.checked os 7 .any ((Rows.OpenSpec.upto Rows.operAttestSpec).preRow enc Tryd.prog Tryd.f7 Rows.operAttestUptoRow.domain false Rows.operAttestUptoRow.laid) (((Rows.OpenSpec.upto Rows.operAttestSpec).at F).post enc Tryd.prog Tryd.f7 false true false false) := by
  obtain ⟨x, hx⟩ := Option.isSome_iff_exists.1 (someAttest os enc)
  have hk := fewAttest os enc
  rw [hx] at hk
  refine returnsInHanded_of_row (C := Tryd.checked) (s := Rows.OpenSpec.upto Rows.operAttestSpec) Tryd.own started (by kernel_rfl) Tryd.func7
    (witness_row_at (enc := enc) (C := Tryd.checked) false (tabWorld os) #[.agg (zeroOf Tryd.prog 76), .slice none 0 0] rfl (by kernel_rfl) (by kernel_rfl) (wit_two _ _ Tryd.f7 _ _ (wit_Attest _) (wit_nil _) (by kernel_rfl) Tryd.func7 (by kernel_rfl) Tryd.params7)
      (OpenSpec.preRow_of_cond 12 hx rfl (fun k hk1 => by cases hk1; exact hk) (by kernel_rfl) (tab_met os _))) ?_
  intro W base args ds gs before hval0 hW _ hcond _ hL _ _
  have hval : ∀ (j : Nat) t v, Tryd.f7.params[j]? = some t → args[j]? = some v → Value.okWide Tryd.prog W .any base t v := hval0
  have hW' := hW
  obtain ⟨p, q, hA0, hV, rfl, hfz, hnd⟩ := hW
  have hA : DataW.TrodAll enc Tryd.prog W 0 (fun _ => true) true Tryd.f7.params.toList args.toList ds p := hA0
  rw [Tryd.params7] at hA hval
  obtain ⟨v0, v1, d0, d1, p0, p1, rfl, rfl, rfl, h0, h1⟩ := trodAll_two hA
  obtain ⟨rfl, rfl⟩ := trodVars_none hV
  obtain ⟨xs, rfl, _⟩ := okWide_struct Tryd.underlying76 (hval 0 76 v0 rfl rfl)
  have hv1 := hval 1 34 v1 rfl rfl
  obtain ⟨n0, t0⟩ := h0
  obtain ⟨n1, t1⟩ := h1
  obtain ⟨sa, sl, sc, rfl⟩ := okWide_slice Tryd.underlying34 hv1
  obtain ⟨vb, cb, lb, hve, hb, hbk⟩ := bytes_open (v := .slice sa sl sc) t1 hv1
  cases hve
  have k0 : DataW.Trod enc Tryd.prog W 0 (fun _ => true) true 76 (.agg xs) d0 p0 := ⟨n0, t0⟩
  have k1 : DataW.Trod enc Tryd.prog W 0 (fun _ => true) true 34 (.slice sa lb.length sc) d1 p1 := ⟨n1, t1⟩
  have hsum := of_decide_eq_true (hcond _ rfl)
  have hfew : lb.length ≤ 1048576 := by
    simp only [List.append_nil, Rows.uptoBulkAll] at hsum hbk
    omega
  have hO := openAtt (N := 1048576) t0 (by simp only [List.append_nil, Rows.uptoBulkAll] at hsum; show Rows.uptoBulk d0 ≤ _; omega) (Nat.le_refl _)
  clear hA0 hval0
  simp only [List.append_nil] at hW'
  have hlt := hW'.lt
  refine (lawAtt_any xs hO lb sa sc (tabs_of hL) hb hfew).mono fun e W' ⟨he, hb⟩ => ?_
  subst he
  refine ⟨_, rfl, post_of_below (pa := p0 ++ p1) (pv := []) hW' (fun _ _ _ => trodAll_mk1 (shut_bool Tryd.underlying4 _)) (fun sp hsp => ?_) (fun _ _ => rfl) (by simp) hb (ok_one (by kernel_rfl) rfl (okWide_bool_mk Tryd.underlying4 _))⟩
  exact trodAll_mk2 (WideElems.Trod_stays Tryd.laidOut (by kernel_rfl) (of_decide_eq_true (by kernel_rfl)) k0 (fun x hx => hb.same (hlt x (by simp [hx]))) (fun x hx => hsp x (by simp [hx])))
    (WideElems.Trod_stays Tryd.laidOut (by kernel_rfl) (of_decide_eq_true (by kernel_rfl)) k1 (fun x hx => hb.same (hlt x (by simp [hx]))) (fun x hx => hsp x (by simp [hx])))
theorem saidAttest : Rows.OperAttestUptoSaid :=
  OpenClaim.holds_of_cond 7 Tryd.f7 rfl rfl rfl rfl rfl rfl rfl ⟨rfl, rfl, rfl, rfl, rfl⟩ rfl rfl rfl rfl rfl (by kernel_rfl) Tryd.func7 (by kernel_rfl)
    (of_decide_eq_true (by kernel_rfl)) (by unfold Func.isWrapper; first | (rw [if_pos (by decide +kernel)]; kernel_rfl) | (rw [if_neg (by decide +kernel)]; exact ⟨rfl, rfl⟩))
    (fun os started H enc _ F => by rw [OpenClaim.pre_eq_preRow]; exact liftedAttest os started H enc F)
theorem plainAttest (f : FuncId) (fn : Func) (hf : Tryd.pinned.checked.prog.funcNamed "pharos/pharoslaw08.OperAttest" = some f) (hfn : Tryd.pinned.checked.prog.funcs[f]? = some fn) :
    false = Tryd.pinned.checked.prog.looks [] ∧ ∀ (j : Nat) t, fn.params[j]? = some t → Tryd.pinned.checked.prog.wantsStandIn t = false := by
  obtain rfl : f = 7 := Option.some.inj ((show Tryd.prog.funcNamed "pharos/pharoslaw08.OperAttest" = some 7 by kernel_rfl).symm.trans hf) |>.symm
  obtain rfl : fn = Tryd.f7 := (Option.some.inj (Tryd.func7.symm.trans hfn)).symm
  refine ⟨by kernel_rfl, fun j t ht => ?_⟩
  rw [Tryd.params7] at ht
  have h2 : t = 76 ∨ t = 34 := by simpa using Array.mem_of_getElem? ht
  rcases h2 with rfl | rfl
  · exact (show Tryd.prog.wantsStandIn 76 = false by kernel_rfl)
  · exact (show Tryd.prog.wantsStandIn 34 = false by kernel_rfl)
/-- The card. -/
theorem cardAttest : Rows.OperAttestUptoCardSaid :=
  Claim7.holds_tied_plain_at .later [] _ _ _ _ saidAttest (fun _ h => by cases h) (by kernel_rfl) (fun _ h => by cases h) operAttestUpto_row_tie rfl ⟨rfl, rfl⟩ (by kernel_rfl) rfl plainAttest (by kernel_rfl)
#print axioms cardAttest
end Go.Proofs.YtihelknkcomjpaaDoor
