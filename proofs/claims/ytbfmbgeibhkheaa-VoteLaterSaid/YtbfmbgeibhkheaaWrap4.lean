/- VoteLater answers true, whatever the state and the data; what is handed in reads behind the call as before. No condition. -/
import Derived.Test.YtbfmbgeibhkheaaLater
import Derived.Test.YtbfmbgeibhkheaaWit2
namespace Go.Proofs.Ytbfmbgeibhkheaa
open Go.ChangeShapes Go.WideShapes Go.ChangeAt Go.RowKit

theorem wit_vote4 (w : World) (f : FuncId) (fn : Func) (hi : (Try.prog.inits.idxOf? f).isNone = true) (hf : Try.prog.funcs[f]? = some fn) (hs : (fn.body.isSome && !fn.ours && fn.nfree == 0 && 2 == fn.params.size) = true)
    (hp : fn.params = #[49, 51]) : Input.okWideB Try.prog w f ⟨#[], #[.agg (zeroOf Try.prog 49), .agg (zeroOf Try.prog 51)], []⟩ = true :=
  okWideB_of hi hf hs fun j t v ht hv => by
    rw [hp] at ht
    match j, ht, hv with
    | 0, ht, hv =>
      simp only [List.getElem?_toArray, List.getElem?_cons_zero, Option.some.injEq] at ht hv
      subst ht; subst hv
      exact wit_state w
    | 1, ht, hv =>
      simp only [List.getElem?_toArray, List.getElem?_cons_succ, List.getElem?_cons_zero, Option.some.injEq] at ht hv
      subst ht; subst hv
      exact wit_data w
set_option maxRecDepth 100000 in
theorem voteLater_lifted (os : Os) (started : os.Started) (H : Type) (enc : TypeId × Value → H) :
    ReturnsInHanded {} Try.checked os 4 .any (Rows.voteLaterSpec.pre6 enc Try.prog Try.f4 Rows.voteLaterRow.domain false) (Rows.voteLaterSpec.post enc Try.prog Try.f4 false true false false) := by
  refine returnsInHanded_of_change (C := Try.checked) Try.own started (by kernel_rfl) Try.func4
    (ChangeSpec.witness6 (enc := enc) (C := Try.checked) false ⟨#[], #[.agg (zeroOf Try.prog 49), .agg (zeroOf Try.prog 51)], []⟩ 8 (by kernel_rfl) (by kernel_rfl) (wit_vote4 _ _ Try.f4 (by kernel_rfl) Try.func4 (by kernel_rfl) Try.params4) (by kernel_rfl)) ?_
  intro W base args ds gs before hval0 hW _ _
  have hval : ∀ (j : Nat) t v, Try.f4.params[j]? = some t → args[j]? = some v → Value.okWide Try.prog W .any base t v := hval0
  have hW' := hW
  obtain ⟨p, q, hA0, hV, rfl, hfz, hnd⟩ := hW
  have hA : DataW.TrodAll enc Try.prog W 0 (fun _ => true) true Try.f4.params.toList args.toList ds p := hA0
  rw [Try.params4] at hA hval
  obtain ⟨v0, v1, d0, d1, p0, p1, rfl, rfl, rfl, h0, h1⟩ := trodAll_two hA
  obtain ⟨rfl, rfl⟩ := trodVars_none hV
  obtain ⟨xs, rfl, _⟩ := okWide_struct Try.underlying49 (hval 0 49 v0 rfl rfl)
  obtain ⟨cs, rfl, _⟩ := okWide_struct Try.underlying51 (hval 1 51 v1 rfl rfl)
  obtain ⟨n0, t0⟩ := h0
  obtain ⟨n1, t1⟩ := h1
  obtain ⟨s, hs⟩ := state_open t0
  obtain ⟨d, hd⟩ := data_open t1
  have k0 : DataW.Trod enc Try.prog W 0 (fun _ => true) true 49 (.agg xs) d0 p0 := ⟨n0, t0⟩
  have k1 : DataW.Trod enc Try.prog W 0 (fun _ => true) true 51 (.agg cs) d1 p1 := ⟨n1, t1⟩
  clear hA0 hval0
  simp only [List.append_nil] at hW'
  have hlt := hW'.lt
  refine (law4_any xs cs s d W hs hd).mono fun e W' ⟨he, hb⟩ => ?_
  subst he
  refine ⟨_, rfl, post_of_below (pa := p0 ++ p1) (pv := []) hW' (fun _ _ _ => trodAll_mk1 (shut_bool Try.underlying4 _)) (fun sp hsp => ?_) (fun _ _ => rfl) (by simp) hb (ok_one (by kernel_rfl) rfl (okWide_bool_mk Try.underlying4 _))⟩
  exact trodAll_mk2 (WideElems.Trod_stays Try.laidOut (by kernel_rfl) (of_decide_eq_true (by kernel_rfl)) k0 (fun x hx => hb.same (hlt x (by simp [hx]))) (fun x hx => hsp x (by simp [hx])))
    (WideElems.Trod_stays Try.laidOut (by kernel_rfl) (of_decide_eq_true (by kernel_rfl)) k1 (fun x hx => hb.same (hlt x (by simp [hx]))) (fun x hx => hsp x (by simp [hx])))

theorem voteLater_holds : Rows.VoteLaterSaid :=
  OpenClaim.holds_of_wide 4 Try.f4 rfl rfl rfl rfl rfl rfl rfl ⟨rfl, rfl, rfl, rfl, rfl⟩ rfl rfl rfl rfl rfl (by kernel_rfl) Try.func4 (by kernel_rfl)
    (of_decide_eq_true (by kernel_rfl)) (by unfold Func.isWrapper; first | (rw [if_pos (by decide +kernel)]; kernel_rfl) | (rw [if_neg (by decide +kernel)]; exact ⟨rfl, rfl⟩))
    (fun os started H enc _ => voteLater_lifted os started H enc)
#print axioms voteLater_holds
end Go.Proofs.Ytbfmbgeibhkheaa
