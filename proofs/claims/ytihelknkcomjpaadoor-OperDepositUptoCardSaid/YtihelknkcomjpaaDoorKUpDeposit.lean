/- The law of oper's container Deposit, where what comes in is of bulk at most 1048576. -/
import Derived.Test.YtihelknkcomjpaaDoorJUpS
import Derived.Test.YtihelknkcomjpaaDoorKLwDeposit
set_option linter.unusedVariables false
set_option linter.unusedSimpArgs false
set_option linter.unnecessarySimpa false
namespace Go.Proofs.YtihelknkcomjpaaDoor
open Go.ChangeShapes Go.WideShapes Go.ChangeAt Go.RowKit BigFrame
set_option maxRecDepth 100000
theorem kdb_Deposit : kdB Tryd.prog 10 33 401 kdDeposit = true := by kernel_rfl
theorem zeroDeposit (j : Nat) (_ : j < 401) : (kdDeposit j).ok 0 := by
  unfold kdDeposit
  repeat' split
  all_goals first
    | exact ⟨by decide, by decide⟩
    | exact Or.inl rfl
/-- The law, whatever the struct and the bytes. -/
theorem smallDeposit_any (f : Nat → Int) (hf : ∀ j, j < 401 → (kdDeposit j).ok (f j)) (lb : List Int) (vb : Option Addr) (cb : Nat) (w : World) (hT : Tabs w) (hb : SlB vb cb lb w) (hfew : lb.length ≤ 70368744170000) :
    Calls Tryd.prog 3 #[.agg (fcells 401 kdDeposit f).toArray, .slice vb lb.length cb] w fun e w' => e = .returned (.bool true) ∧ Below w.heap.size w w' := by
  by_cases hl : lb.length = 408
  · exact lw_Deposit f hf lb vb cb w hT hb hfew (rdDeposit lb) 0 lb (fun j hj => rdok_Deposit hl hb.row.ok j hj) (encrd_Deposit lb hl hb.row.ok) (fun _ => rfl)
      (fun g c W hs => by have h := readDeposit_ok lb _ c W hs.row hs.cap hs.nil hs.lowG hl; rw [hl]; exact h)
      (fun va c W hs => by have h := rreadDeposit_ok lb va c W hs hl; rw [hl]; exact h)
  · exact lw_Deposit f hf lb vb cb w hT hb hfew (fun _ => 0) 4 _ (fun j hj => zeroDeposit j hj) rfl (fun h => by cases h)
      (fun g c W hs => by exact readDeposit_bad lb _ c W hs.row hs.cap hs.nil hs.lowG hl (by omega))
      (fun va c W hs => by exact rreadDeposit_bad lb va c W hs hl)
theorem wit_Deposit (w : World) : Value.okWideB Tryd.prog w 33 (.agg (zeroOf Tryd.prog 33)) = true := okWideB_agg Tryd.underlying33 rfl (by kernel_rfl) (by kernel_rfl)
theorem someDeposit (os : Os) {H : Type} (enc : TypeId × Value → H) : (DataW.whole enc Tryd.prog ((tabWorld os).forCall (fun _ _ => 0) ⟨#[], #[.agg (zeroOf Tryd.prog 33), .slice none 0 0], []⟩).memory Tryd.f3.params.toList Rows.operDepositSpec.vars false #[Value.agg (zeroOf Tryd.prog 33), .slice none 0 0].toList 12).isSome = true := by kernel_rfl
theorem fewDeposit (os : Os) {H : Type} (enc : TypeId × Value → H) : Rows.uptoSmall H (((DataW.whole enc Tryd.prog ((tabWorld os).forCall (fun _ _ => 0) ⟨#[], #[.agg (zeroOf Tryd.prog 33), .slice none 0 0], []⟩).memory Tryd.f3.params.toList Rows.operDepositSpec.vars false #[Value.agg (zeroOf Tryd.prog 33), .slice none 0 0].toList 12).getD ([], [], [])).1 ++ ((DataW.whole enc Tryd.prog ((tabWorld os).forCall (fun _ _ => 0) ⟨#[], #[.agg (zeroOf Tryd.prog 33), .slice none 0 0], []⟩).memory Tryd.f3.params.toList Rows.operDepositSpec.vars false #[Value.agg (zeroOf Tryd.prog 33), .slice none 0 0].toList 12).getD ([], [], [])).2.1) = true := by kernel_rfl
set_option maxHeartbeats 4000000 in
theorem liftedDeposit (os : Os) (started : os.Started) (H : Type) (enc : TypeId × Value → H) (F : Stop.Interp) :
    ReturnsInHanded {} Tryd.checked os 3 .any ((Rows.OpenSpec.upto Rows.operDepositSpec).preRow enc Tryd.prog Tryd.f3 Rows.operDepositUptoRow.domain false Rows.operDepositUptoRow.laid) (((Rows.OpenSpec.upto Rows.operDepositSpec).at F).post enc Tryd.prog Tryd.f3 false true false false) := by
  obtain ⟨x, hx⟩ := Option.isSome_iff_exists.1 (someDeposit os enc)
  have hk := fewDeposit os enc
  rw [hx] at hk
  refine returnsInHanded_of_row (C := Tryd.checked) (s := Rows.OpenSpec.upto Rows.operDepositSpec) Tryd.own started (by kernel_rfl) Tryd.func3
    (witness_row_at (enc := enc) (C := Tryd.checked) false (tabWorld os) #[.agg (zeroOf Tryd.prog 33), .slice none 0 0] rfl (by kernel_rfl) (by kernel_rfl) (wit_two _ _ Tryd.f3 _ _ (wit_Deposit _) (wit_nil _) (by kernel_rfl) Tryd.func3 (by kernel_rfl) Tryd.params3)
      (OpenSpec.preRow_of_cond 12 hx rfl (fun k hk1 => by cases hk1; exact hk) (by kernel_rfl) (tab_met os _))) ?_
  intro W base args ds gs before hval0 hW _ hcond _ hL _ _
  have hval : ∀ (j : Nat) t v, Tryd.f3.params[j]? = some t → args[j]? = some v → Value.okWide Tryd.prog W .any base t v := hval0
  have hW' := hW
  obtain ⟨p, q, hA0, hV, rfl, hfz, hnd⟩ := hW
  have hA : DataW.TrodAll enc Tryd.prog W 0 (fun _ => true) true Tryd.f3.params.toList args.toList ds p := hA0
  rw [Tryd.params3] at hA hval
  obtain ⟨v0, v1, d0, d1, p0, p1, rfl, rfl, rfl, h0, h1⟩ := trodAll_two hA
  obtain ⟨rfl, rfl⟩ := trodVars_none hV
  obtain ⟨xs, rfl, _⟩ := okWide_struct Tryd.underlying33 (hval 0 33 v0 rfl rfl)
  have hv1 := hval 1 34 v1 rfl rfl
  obtain ⟨n0, t0⟩ := h0
  obtain ⟨n1, t1⟩ := h1
  obtain ⟨f, rfl, hf⟩ := flat_args kdb_Deposit t0
  obtain ⟨sa, sl, sc, rfl⟩ := okWide_slice Tryd.underlying34 hv1
  obtain ⟨vb, cb, lb, hve, hb, hbk⟩ := bytes_open (v := .slice sa sl sc) t1 hv1
  cases hve
  have k0 : DataW.Trod enc Tryd.prog W 0 (fun _ => true) true 33 (.agg (fcells 401 kdDeposit f).toArray) d0 p0 := ⟨n0, t0⟩
  have k1 : DataW.Trod enc Tryd.prog W 0 (fun _ => true) true 34 (.slice sa lb.length sc) d1 p1 := ⟨n1, t1⟩
  have hsum := of_decide_eq_true (hcond _ rfl)
  have hfew : lb.length ≤ 70368744170000 := by
    simp only [List.append_nil, Rows.uptoBulkAll] at hsum hbk
    omega
  clear hA0 hval0
  simp only [List.append_nil] at hW'
  have hlt := hW'.lt
  refine (smallDeposit_any f hf lb sa sc W (tabs_of hL) hb hfew).mono fun e W' ⟨he, hb⟩ => ?_
  subst he
  refine ⟨_, rfl, post_of_below (pa := p0 ++ p1) (pv := []) hW' (fun _ _ _ => trodAll_mk1 (shut_bool Tryd.underlying4 _)) (fun sp hsp => ?_) (fun _ _ => rfl) (by simp) hb (ok_one (by kernel_rfl) rfl (okWide_bool_mk Tryd.underlying4 _))⟩
  exact trodAll_mk2 (WideElems.Trod_stays Tryd.laidOut (by kernel_rfl) (of_decide_eq_true (by kernel_rfl)) k0 (fun x hx => hb.same (hlt x (by simp [hx]))) (fun x hx => hsp x (by simp [hx])))
    (WideElems.Trod_stays Tryd.laidOut (by kernel_rfl) (of_decide_eq_true (by kernel_rfl)) k1 (fun x hx => hb.same (hlt x (by simp [hx]))) (fun x hx => hsp x (by simp [hx])))
theorem saidDeposit : Rows.OperDepositUptoSaid :=
  OpenClaim.holds_of_cond 3 Tryd.f3 rfl rfl rfl rfl rfl rfl rfl ⟨rfl, rfl, rfl, rfl, rfl⟩ rfl rfl rfl rfl rfl (by kernel_rfl) Tryd.func3 (by kernel_rfl)
    (of_decide_eq_true (by kernel_rfl)) (by unfold Func.isWrapper; first | (rw [if_pos (by decide +kernel)]; kernel_rfl) | (rw [if_neg (by decide +kernel)]; exact ⟨rfl, rfl⟩))
    (fun os started H enc _ F => by rw [OpenClaim.pre_eq_preRow]; exact liftedDeposit os started H enc F)
theorem plainDeposit (f : FuncId) (fn : Func) (hf : Tryd.pinned.checked.prog.funcNamed "pharos/pharoslaw08.OperDeposit" = some f) (hfn : Tryd.pinned.checked.prog.funcs[f]? = some fn) :
    false = Tryd.pinned.checked.prog.looks [] ∧ ∀ (j : Nat) t, fn.params[j]? = some t → Tryd.pinned.checked.prog.wantsStandIn t = false := by
  obtain rfl : f = 3 := Option.some.inj ((show Tryd.prog.funcNamed "pharos/pharoslaw08.OperDeposit" = some 3 by kernel_rfl).symm.trans hf) |>.symm
  obtain rfl : fn = Tryd.f3 := (Option.some.inj (Tryd.func3.symm.trans hfn)).symm
  refine ⟨by kernel_rfl, fun j t ht => ?_⟩
  rw [Tryd.params3] at ht
  have h2 : t = 33 ∨ t = 34 := by simpa using Array.mem_of_getElem? ht
  rcases h2 with rfl | rfl
  · exact (show Tryd.prog.wantsStandIn 33 = false by kernel_rfl)
  · exact (show Tryd.prog.wantsStandIn 34 = false by kernel_rfl)
/-- The card. -/
theorem cardDeposit : Rows.OperDepositUptoCardSaid :=
  Claim7.holds_tied_plain_at .later [] _ _ _ _ saidDeposit (fun _ h => by cases h) (by kernel_rfl) (fun _ h => by cases h) operDepositUpto_row_tie rfl ⟨rfl, rfl⟩ (by kernel_rfl) rfl plainDeposit (by kernel_rfl)
#print axioms cardDeposit
end Go.Proofs.YtihelknkcomjpaaDoor
