/- The law pharoslaw08.OperAttesterSlashing, where what comes in is of bulk at most 1048576: it answers true, and what was handed in stays. The card says it of the program's text. -/
import Derived.Test.YtihelknkcomjpaaDoorKAnyAts
set_option linter.unusedVariables false
set_option linter.unusedSimpArgs false
set_option linter.unnecessarySimpa false
namespace Go.Proofs.YtihelknkcomjpaaDoor
open Go.ChangeShapes Go.WideShapes Go.ChangeAt Go.RowKit BigFrame
set_option maxRecDepth 100000
theorem wit_AttesterSlashing (w : World) : Value.okWideB Tryd.prog w 68 (.agg (zeroOf Tryd.prog 68)) = true := okWideB_agg Tryd.underlying68 rfl (by kernel_rfl) (by kernel_rfl)
theorem someAttesterSlashing (os : Os) {H : Type} (enc : TypeId × Value → H) : (DataW.whole enc Tryd.prog ((tabWorld os).forCall (fun _ _ => 0) ⟨#[], #[.agg (zeroOf Tryd.prog 68), .slice none 0 0], []⟩).memory Tryd.f6.params.toList Rows.operAttesterSlashingSpec.vars false #[Value.agg (zeroOf Tryd.prog 68), .slice none 0 0].toList 12).isSome = true := by kernel_rfl
theorem fewAttesterSlashing (os : Os) {H : Type} (enc : TypeId × Value → H) : Rows.uptoSmall H (((DataW.whole enc Tryd.prog ((tabWorld os).forCall (fun _ _ => 0) ⟨#[], #[.agg (zeroOf Tryd.prog 68), .slice none 0 0], []⟩).memory Tryd.f6.params.toList Rows.operAttesterSlashingSpec.vars false #[Value.agg (zeroOf Tryd.prog 68), .slice none 0 0].toList 12).getD ([], [], [])).1 ++ ((DataW.whole enc Tryd.prog ((tabWorld os).forCall (fun _ _ => 0) ⟨#[], #[.agg (zeroOf Tryd.prog 68), .slice none 0 0], []⟩).memory Tryd.f6.params.toList Rows.operAttesterSlashingSpec.vars false #[Value.agg (zeroOf Tryd.prog 68), .slice none 0 0].toList 12).getD ([], [], [])).2.1) = true := by kernel_rfl
set_option maxHeartbeats 4000000 in
theorem liftedAttesterSlashing (os : Os) (started : os.Started) (H : Type) (enc : TypeId × Value → H) (F : Stop.Interp) :
    ReturnsInHanded {} Tryd.checked os 6 .any ((Rows.OpenSpec.upto Rows.operAttesterSlashingSpec).preRow enc Tryd.prog Tryd.f6 Rows.operAttesterSlashingUptoRow.domain false Rows.operAttesterSlashingUptoRow.laid) (((Rows.OpenSpec.upto Rows.operAttesterSlashingSpec).at F).post enc Tryd.prog Tryd.f6 false true false false) := by
  obtain ⟨x, hx⟩ := Option.isSome_iff_exists.1 (someAttesterSlashing os enc)
  have hk := fewAttesterSlashing os enc
  rw [hx] at hk
  refine returnsInHanded_of_row (C := Tryd.checked) (s := Rows.OpenSpec.upto Rows.operAttesterSlashingSpec) Tryd.own started (by kernel_rfl) Tryd.func6
    (witness_row_at (enc := enc) (C := Tryd.checked) false (tabWorld os) #[.agg (zeroOf Tryd.prog 68), .slice none 0 0] rfl (by kernel_rfl) (by kernel_rfl) (wit_two _ _ Tryd.f6 _ _ (wit_AttesterSlashing _) (wit_nil _) (by kernel_rfl) Tryd.func6 (by kernel_rfl) Tryd.params6)
      (OpenSpec.preRow_of_cond 12 hx rfl (fun k hk1 => by cases hk1; exact hk) (by kernel_rfl) (tab_met os _))) ?_
  intro W base args ds gs before hval0 hW _ hcond _ hL _ _
  have hval : ∀ (j : Nat) t v, Tryd.f6.params[j]? = some t → args[j]? = some v → Value.okWide Tryd.prog W .any base t v := hval0
  have hW' := hW
  obtain ⟨p, q, hA0, hV, rfl, hfz, hnd⟩ := hW
  have hA : DataW.TrodAll enc Tryd.prog W 0 (fun _ => true) true Tryd.f6.params.toList args.toList ds p := hA0
  rw [Tryd.params6] at hA hval
  obtain ⟨v0, v1, d0, d1, p0, p1, rfl, rfl, rfl, h0, h1⟩ := trodAll_two hA
  obtain ⟨rfl, rfl⟩ := trodVars_none hV
  obtain ⟨xs, rfl, _⟩ := okWide_struct Tryd.underlying68 (hval 0 68 v0 rfl rfl)
  have hv1 := hval 1 34 v1 rfl rfl
  obtain ⟨n0, t0⟩ := h0
  obtain ⟨n1, t1⟩ := h1
  obtain ⟨sa, sl, sc, rfl⟩ := okWide_slice Tryd.underlying34 hv1
  obtain ⟨vb, cb, lb, hve, hb, hbk⟩ := bytes_open (v := .slice sa sl sc) t1 hv1
  cases hve
  have k0 : DataW.Trod enc Tryd.prog W 0 (fun _ => true) true 68 (.agg xs) d0 p0 := ⟨n0, t0⟩
  have k1 : DataW.Trod enc Tryd.prog W 0 (fun _ => true) true 34 (.slice sa lb.length sc) d1 p1 := ⟨n1, t1⟩
  have hsum := of_decide_eq_true (hcond _ rfl)
  have hfew : lb.length ≤ 70368744170000 := by
    simp only [List.append_nil, Rows.uptoBulkAll] at hsum hbk
    omega
  have hO := openAts (N := 1048576) t0 (by simp only [List.append_nil, Rows.uptoBulkAll] at hsum; show Rows.uptoBulk d0 ≤ _; omega) (Nat.le_refl _)
  clear hA0 hval0
  simp only [List.append_nil] at hW'
  have hlt := hW'.lt
  refine (lawAts_any xs hO lb sa sc (tabs_of hL) hb hfew).mono fun e W' ⟨he, hb⟩ => ?_
  subst he
  refine ⟨_, rfl, post_of_below (pa := p0 ++ p1) (pv := []) hW' (fun _ _ _ => trodAll_mk1 (shut_bool Tryd.underlying4 _)) (fun sp hsp => ?_) (fun _ _ => rfl) (by simp) hb (ok_one (by kernel_rfl) rfl (okWide_bool_mk Tryd.underlying4 _))⟩
  exact trodAll_mk2 (WideElems.Trod_stays Tryd.laidOut (by kernel_rfl) (of_decide_eq_true (by kernel_rfl)) k0 (fun x hx => hb.same (hlt x (by simp [hx]))) (fun x hx => hsp x (by simp [hx])))
    (WideElems.Trod_stays Tryd.laidOut (by kernel_rfl) (of_decide_eq_true (by kernel_rfl)) k1 (fun x hx => hb.same (hlt x (by simp [hx]))) (fun x hx => hsp x (by simp [hx])))
theorem saidAttesterSlashing : Rows.OperAttesterSlashingUptoSaid :=
  OpenClaim.holds_of_cond 6 Tryd.f6 rfl rfl rfl rfl rfl rfl rfl ⟨rfl, rfl, rfl, rfl, rfl⟩ rfl rfl rfl rfl rfl (by kernel_rfl) Tryd.func6 (by kernel_rfl)
    (of_decide_eq_true (by kernel_rfl)) (by unfold Func.isWrapper; first | (rw [if_pos (by decide +kernel)]; kernel_rfl) | (rw [if_neg (by decide +kernel)]; exact ⟨rfl, rfl⟩))
    (fun os started H enc _ F => by rw [OpenClaim.pre_eq_preRow]; exact liftedAttesterSlashing os started H enc F)
theorem plainAttesterSlashing (f : FuncId) (fn : Func) (hf : Tryd.pinned.checked.prog.funcNamed "pharos/pharoslaw08.OperAttesterSlashing" = some f) (hfn : Tryd.pinned.checked.prog.funcs[f]? = some fn) :
    false = Tryd.pinned.checked.prog.looks [] ∧ ∀ (j : Nat) t, fn.params[j]? = some t → Tryd.pinned.checked.prog.wantsStandIn t = false := by
  obtain rfl : f = 6 := Option.some.inj ((show Tryd.prog.funcNamed "pharos/pharoslaw08.OperAttesterSlashing" = some 6 by kernel_rfl).symm.trans hf) |>.symm
  obtain rfl : fn = Tryd.f6 := (Option.some.inj (Tryd.func6.symm.trans hfn)).symm
  refine ⟨by kernel_rfl, fun j t ht => ?_⟩
  rw [Tryd.params6] at ht
  have h2 : t = 68 ∨ t = 34 := by simpa using Array.mem_of_getElem? ht
  rcases h2 with rfl | rfl
  · exact (show Tryd.prog.wantsStandIn 68 = false by kernel_rfl)
  · exact (show Tryd.prog.wantsStandIn 34 = false by kernel_rfl)
/-- The card. -/
theorem cardAttesterSlashing : Rows.OperAttesterSlashingUptoCardSaid :=
  Claim7.holds_tied_plain_at .later [] _ _ _ _ saidAttesterSlashing (fun _ h => by cases h) (by kernel_rfl) (fun _ h => by cases h) operAttesterSlashingUpto_row_tie rfl ⟨rfl, rfl⟩ (by kernel_rfl) rfl plainAttesterSlashing (by kernel_rfl)
#print axioms cardAttesterSlashing
end Go.Proofs.YtihelknkcomjpaaDoor
