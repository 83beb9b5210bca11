/- The law pharoslaw14.CommSlots, where what comes in is of bulk at most 1048576: it answers true, and what was handed in stays. The card says it of the program's text. -/
import Derived.Test.YtfnjcpopadpmbaaDoorJCsJ
import Derived.Test.YtfnjcpopadpmbaaDoorJUpS
import Derived.Test.YtfnjcpopadpmbaaDoorKOpenSt
import Derived.Test.YtfnjcpopadpmbaaDoorCards
import Derived.Test.YtfnjcpopadpmbaaDoorTie
import Derived.WalkKit
import Derived.ProofKit
import Derived.OpenShut
import Derived.Carry
import Derived.Deep.DeepHandedRow
import Derived.Lib.LaidTab
import Derived.Stop.LaidErr
set_option linter.unusedVariables false
set_option linter.unusedSimpArgs false
set_option linter.unnecessarySimpa false
namespace Go.Proofs.YtfnjcpopadpmbaaDoor
open Go.RowKit Go.ChangeShapes Go.WideShapes Go.ChangeAt Go.Deep BigFrame
set_option maxRecDepth 100000
def zsK : List Int := (List.range 64).map fun t => wi (shaKw t)
def zsI : List Int := (List.range 8).map fun j => wi (shaIv.at j)
theorem tabK : (Rows.laid_pharos_pharosref02_constants : DataW Unit) = Lib.tabData .u32 zsK := by kernel_rfl
theorem tabI : (Rows.laid_pharos_sha_start : DataW Unit) = Lib.tabData .u32 zsI := by kernel_rfl
theorem gK : Tryd.prog.globalNamed "pharos/pharosref02.constants" = some 2 := by kernel_rfl
theorem gI : Tryd.prog.globalNamed "pharos/sha.start" = some 0 := by kernel_rfl
theorem gR : Tryd.prog.globalNamed "pharos/sha.round" = some 1 := by kernel_rfl
theorem gtK : (Tryd.prog.globals[2]?).map (·.type) = some 123 := by kernel_rfl
theorem gtI : (Tryd.prog.globals[0]?).map (·.type) = some 100 := by kernel_rfl
theorem gtR : (Tryd.prog.globals[1]?).map (·.type) = some 123 := by kernel_rfl
theorem cu32 : Tryd.prog.cellsOf 96 = 1 := by kernel_rfl
theorem ca64 : Tryd.prog.cellsOf 123 = 64 := by kernel_rfl
theorem ca8 : Tryd.prog.cellsOf 100 = 8 := by kernel_rfl
/-- The three tables as the rows list them. -/
def laidL : List (String × DataW Unit) := [("pharos/pharosref02.constants", Rows.laid_pharos_pharosref02_constants), ("pharos/sha.start", Rows.laid_pharos_sha_start), ("pharos/sha.round", Rows.laid_pharos_sha_round)]
theorem zsK_get (t : Nat) (h : t < 64) : zsK.getD t 0 = wi (shaKw t) := by
  unfold zsK
  simp [List.getD, h]
theorem zsI_get (t : Nat) (h : t < 8) : zsI.getD t 0 = wi (shaIv.at t) := by
  unfold zsI
  simp [List.getD, h]
theorem tabs_of {W : World} (h0 : laidMetH Tryd.prog laidL W) : Tabs W := by
  have h : laidMet Tryd.prog [("pharos/pharosref02.constants", Lib.tabData .u32 zsK), ("pharos/sha.start", Lib.tabData .u32 zsI), ("pharos/sha.round", Lib.tabData .u32 zsK)] W := by
    rw [← tabI, ← tabK]
    exact h0
  have a := Lib.tabIs_of_head gK gtK Tryd.underlying123 Tryd.underlying96 cu32 ca64 h
  have b := Lib.tabIs_of_head gI gtI Tryd.underlying100 Tryd.underlying96 cu32 ca8 h.tail
  have c := Lib.tabIs_of_head gR gtR Tryd.underlying123 Tryd.underlying96 cu32 ca64 h.tail.tail
  have lK : zsK.length = 64 := by simp [zsK]
  have lI : zsI.length = 8 := by simp [zsI]
  exact ⟨fun j hj => by rw [b.cell gI j (by omega), zsI_get j hj], fun j hj => by rw [c.cell gR j (by omega), zsK_get j hj], fun j hj => by rw [a.cell gK j (by omega), zsK_get j hj]⟩
/-- A start: the settled one, the three tables holding what their text lays. -/
def layT (zs : List Int) : Obj → Obj
  | .cells _ t frozen => .cells (zs.map fun z => Value.int .u32 z).toArray t frozen
  | o => o
noncomputable def tabWorld (os : Os) : World :=
  { World.holding Tryd.prog os ⟨#[], #[], []⟩ with heap := (((World.holding Tryd.prog os ⟨#[], #[], []⟩).heap.modify 2 (layT zsK)).modify 0 (layT zsI)).modify 1 (layT zsK) }
theorem tab_met (os : Os) (args : Array Value) : laidMetH Tryd.prog laidL ((tabWorld os).forCall (fun _ _ => 0) ⟨#[], args, []⟩).memory :=
  laidMet_of_run' 8 (by kernel_rfl) (by kernel_rfl)
theorem nil_open {H : Type} {enc : TypeId × Value → H} {W : World} {base : Nat} {spare : Nat → Bool} {held : Bool} {t e : TypeId} (hu : Tryd.prog.underlying t = some (.slice e)) {fuel : Nat} {va : Option Addr} {n cap : Nat} {x : DataW H × List MemPlace} (h : DataW.trod enc Tryd.prog W base spare held fuel t [.slice va n cap] = some x) : va = none → cap = 0 := fun hv => by
  subst hv
  rcases Go.Deep.open_slice hu h with ⟨e, _⟩ | ⟨a, len, cap', m, n', D, Pl, e, _⟩
  · injection e with e1 _
    injection e1
  · injection e with e1 _
    injection e1 with e2 _ _
    cases e2
theorem bulk_one {H : Type} (d : DataW H) : 1 ≤ Rows.uptoBulk d := by
  cases d with
  | lit l => cases l <;> simp [Rows.uptoBulk]
  | _ => simp [Rows.uptoBulk]
theorem bulk_len {H : Type} : ∀ l : List (DataW H), l.length ≤ Rows.uptoBulkAll l
  | [] => Nat.zero_le _
  | x :: r => by
    have h1 := bulk_one x
    have h2 := bulk_len r
    simp only [Rows.uptoBulkAll, List.length_cons]
    omega
section
variable {H : Type} {enc : TypeId × Value → H} {P : Program} {w : World} {base : Nat} {spare : Nat → Bool} {held : Bool} {N : Nat}
/-- A slice of structs of numbers. -/
theorem rows_openB {t e : TypeId} {d sz : Nat} {kd : Nat → CK} (hu : P.underlying t = some (.slice e)) (hk : kdB P d e sz kd = true) (hsz : P.cellsOf e = sz) (h0 : 0 < sz) {fuel : Nat} {v : Value} {x : DataW H × List MemPlace}
    (h : DataW.trod enc P w base spare held fuel t [v] = some x) : ∃ va cap l, v = .slice va l.length cap ∧ Rows w va sz kd l ∧ l.length ≤ Rows.uptoBulk x.1 := by
  obtain ⟨va, cap, l, hv, hr, _⟩ := rows_open hu hk hsz h0 h
  refine ⟨va, cap, l, hv, hr, ?_⟩
  rcases open_slice hu h with ⟨e, rfl⟩ | ⟨a, len, cap', m, n, D, Pl, e, _, _, _, _, rfl, _⟩
  · rw [hv] at e
    simp only [List.cons.injEq, Value.slice.injEq, and_true] at e
    omega
  · rw [hv] at e
    simp only [List.cons.injEq, Value.slice.injEq, and_true] at e
    have := bulk_len ((List.range len).map D)
    simp only [Rows.uptoBulk, List.length_map, List.length_range] at this ⊢
    omega
theorem row_openB {t e : TypeId} {d : Nat} {c : CK} (hu : P.underlying t = some (.slice e)) (hk : kdB P d e 1 (fun _ => c) = true) (hsz : P.cellsOf e = 1) {fuel : Nat} {v : Value} {x : DataW H × List MemPlace}
    (h : DataW.trod enc P w base spare held fuel t [v] = some x) : ∃ va cap l, v = .slice va l.length cap ∧ Row w va c l ∧ l.length ≤ Rows.uptoBulk x.1 := by
  obtain ⟨va, cap, l, hv, hr, _⟩ := row_open hu hk hsz h
  obtain ⟨va', cap', l', hv', _, hb⟩ := rows_openB hu hk hsz (by decide) h
  rw [hv] at hv'
  injection hv' with _ e2 _
  exact ⟨va, cap, l, hv, hr, by omega⟩
end
theorem wit_st (w : World) : Value.okWideB Tryd.prog w 49 (.agg (zeroOf Tryd.prog 49)) = true := okWideB_agg Tryd.underlying49 rfl (by kernel_rfl) (by kernel_rfl)
theorem wit_n (w : World) : Value.okWideB Tryd.prog w 22 (.int .u64 0) = true := by
  unfold Value.okWideB
  rw [Tryd.underlying22]
  rfl
theorem wit_b (w : World) : Value.okWideB Tryd.prog w 61 (.slice none 0 0) = true := by
  unfold Value.okWideB
  rw [Tryd.underlying61]
  rfl
theorem wit_four {t1 t2 t3 t4 : TypeId} (w : World) (f : FuncId) (fn : Func) (v1 v2 v3 v4 : Value) (h1 : Value.okWideB Tryd.prog w t1 v1 = true) (h2 : Value.okWideB Tryd.prog w t2 v2 = true) (h3 : Value.okWideB Tryd.prog w t3 v3 = true) (h4 : Value.okWideB Tryd.prog w t4 v4 = true) (hi : (Tryd.prog.inits.idxOf? f).isNone = true) (hf : Tryd.prog.funcs[f]? = some fn) (hs : (fn.body.isSome && !fn.ours && fn.nfree == 0 && 4 == fn.params.size) = true)
    (hp : fn.params = #[t1, t2, t3, t4]) : Input.okWideB Tryd.prog w f ⟨#[], #[v1, v2, v3, v4], []⟩ = true :=
  okWideB_of hi hf hs fun j t v ht hv => by
    rw [hp] at ht
    match j, ht, hv with
    | 0, ht, hv => cases ht; cases hv; exact h1
    | 1, ht, hv => cases ht; cases hv; exact h2
    | 2, ht, hv => cases ht; cases hv; exact h3
    | 3, ht, hv => cases ht; cases hv; exact h4
theorem kd_cB : kdB Tryd.prog 10 4 1 (fun _ => .bool) = true := by kernel_rfl
theorem sz_cB : Tryd.prog.cellsOf 4 = 1 := by kernel_rfl
theorem Row.bits {w : World} {va : Option Addr} {l : List Int} (h : Row w va .bool l) : RowBo w va l.length (fun j => decide (l.getD j 0 ≠ 0)) := fun j hj => h.cell j hj
theorem someSlots (os : Os) {H : Type} (enc : TypeId × Value → H) : (DataW.whole enc Tryd.prog ((tabWorld os).forCall (fun _ _ => 0) ⟨#[], #[.agg (zeroOf Tryd.prog 49), .int .u64 0, .int .u64 0, .slice none 0 0], []⟩).memory Tryd.f5.params.toList Rows.commSlotsSpec.vars false #[Value.agg (zeroOf Tryd.prog 49), .int .u64 0, .int .u64 0, .slice none 0 0].toList 12).isSome = true := by kernel_rfl
theorem fewSlots (os : Os) {H : Type} (enc : TypeId × Value → H) : Rows.uptoSmall H (((DataW.whole enc Tryd.prog ((tabWorld os).forCall (fun _ _ => 0) ⟨#[], #[.agg (zeroOf Tryd.prog 49), .int .u64 0, .int .u64 0, .slice none 0 0], []⟩).memory Tryd.f5.params.toList Rows.commSlotsSpec.vars false #[Value.agg (zeroOf Tryd.prog 49), .int .u64 0, .int .u64 0, .slice none 0 0].toList 12).getD ([], [], [])).1 ++ ((DataW.whole enc Tryd.prog ((tabWorld os).forCall (fun _ _ => 0) ⟨#[], #[.agg (zeroOf Tryd.prog 49), .int .u64 0, .int .u64 0, .slice none 0 0], []⟩).memory Tryd.f5.params.toList Rows.commSlotsSpec.vars false #[Value.agg (zeroOf Tryd.prog 49), .int .u64 0, .int .u64 0, .slice none 0 0].toList 12).getD ([], [], [])).2.1) = true := by kernel_rfl
set_option maxHeartbeats 4000000 in
theorem liftedSlots (os : Os) (started : os.Started) (H : Type) (enc : TypeId × Value → H) (F : Stop.Interp) :
    ReturnsInHanded {} Tryd.checked os 5 .any ((Rows.OpenSpec.upto Rows.commSlotsSpec).preRow enc Tryd.prog Tryd.f5 Rows.commSlotsUptoRow.domain false Rows.commSlotsUptoRow.laid) (((Rows.OpenSpec.upto Rows.commSlotsSpec).at F).post enc Tryd.prog Tryd.f5 false true false false) := by
  obtain ⟨x, hx⟩ := Option.isSome_iff_exists.1 (someSlots os enc)
  have hk := fewSlots os enc
  rw [hx] at hk
  refine returnsInHanded_of_row (C := Tryd.checked) (s := Rows.OpenSpec.upto Rows.commSlotsSpec) Tryd.own started (by kernel_rfl) Tryd.func5
    (witness_row_at (enc := enc) (C := Tryd.checked) false (tabWorld os) #[.agg (zeroOf Tryd.prog 49), .int .u64 0, .int .u64 0, .slice none 0 0] rfl (by kernel_rfl) (by kernel_rfl) (wit_four _ _ Tryd.f5 _ _ _ _ (wit_st _) (wit_n _) (wit_n _) (wit_b _) (by kernel_rfl) Tryd.func5 (by kernel_rfl) Tryd.params5)
      (OpenSpec.preRow_of_cond 12 hx rfl (fun k hk1 => by cases hk1; exact hk) (by kernel_rfl) (tab_met os _))) ?_
  intro W base args ds gs before hval0 hW _ hcond _ hL _ _
  have hval : ∀ (j : Nat) t v, Tryd.f5.params[j]? = some t → args[j]? = some v → Value.okWide Tryd.prog W .any base t v := hval0
  have hW' := hW
  obtain ⟨p, q, hA0, hV, rfl, hfz, hnd⟩ := hW
  have hA : DataW.TrodAll enc Tryd.prog W 0 (fun _ => true) true Tryd.f5.params.toList args.toList ds p := hA0
  rw [Tryd.params5] at hA hval
  obtain ⟨v0, v1, v2, v3, d0, d1, d2, d3, p0, p1, p2, p3, rfl, rfl, rfl, h0, h1, h2, h3⟩ := trodAll_four hA
  obtain ⟨rfl, rfl⟩ := trodVars_none hV
  obtain ⟨xs, rfl, _⟩ := okWide_struct Tryd.underlying49 (hval 0 49 v0 rfl rfl)
  obtain ⟨E1, rfl⟩ := okWide_int Tryd.underlying22 (hval 1 22 v1 rfl rfl)
  obtain ⟨E2, rfl⟩ := okWide_int Tryd.underlying22 (hval 2 22 v2 rfl rfl)
  obtain ⟨a0, ln, cp, rfl⟩ := okWide_slice Tryd.underlying61 (hval 3 61 v3 rfl rfl)
  obtain ⟨n0, t0⟩ := h0
  obtain ⟨n1, t1⟩ := h1
  obtain ⟨n2, t2⟩ := h2
  obtain ⟨n3, t3⟩ := h3
  have k0 : DataW.Trod enc Tryd.prog W 0 (fun _ => true) true 49 (.agg xs) d0 p0 := ⟨n0, t0⟩
  have k1 : DataW.Trod enc Tryd.prog W 0 (fun _ => true) true 22 (.int .u64 E1) d1 p1 := ⟨n1, t1⟩
  have k2 : DataW.Trod enc Tryd.prog W 0 (fun _ => true) true 22 (.int .u64 E2) d2 p2 := ⟨n2, t2⟩
  have k3 : DataW.Trod enc Tryd.prog W 0 (fun _ => true) true 61 (.slice a0 ln cp) d3 p3 := ⟨n3, t3⟩
  obtain ⟨st, hst⟩ := state_open t0
  obtain ⟨ba, bc, bs, hv3, hbs, hbl⟩ := row_openB (v := .slice a0 ln cp) Tryd.underlying61 kd_cB sz_cB t3
  cases hv3
  have hcap := nil_open Tryd.underlying61 t3
  have hsum := of_decide_eq_true (hcond _ rfl)
  have hfew : bs.length ≤ 1048576 := by
    simp only [List.append_nil, Rows.uptoBulkAll] at hsum hbl
    omega
  have hE1 := (cell_kind (v := .int .u64 E1) is_u64 t1).2
  have hE2 := (cell_kind (v := .int .u64 E2) is_u64 t2).2
  obtain ⟨s1, rfl⟩ := Int.eq_ofNat_of_zero_le (show 0 ≤ E1 from hE1.1)
  obtain ⟨s2, rfl⟩ := Int.eq_ofNat_of_zero_le (show 0 ≤ E2 from hE2.1)
  have hs1 : s1 ≤ 18446744073709551615 := by have h := hE1.2; simp only [num] at h; omega
  clear hA0 hval0
  simp only [List.append_nil] at hW'
  have hlt := hW'.lt
  refine (slots_any awake_ok xs st s1 s2 a0 bs.length cp _ W hst (tabs_of hL) hs1 hbs.bits hfew hcap).mono fun e W' ⟨he, hb⟩ => ?_
  subst he
  refine ⟨_, rfl, post_of_below (pa := p0 ++ p1 ++ p2 ++ p3) (pv := []) hW' (fun _ _ _ => trodAll_mk1 (shut_bool Tryd.underlying4 _)) (fun sp hsp => ?_) (fun _ _ => rfl) (by simp) hb (ok_one (by kernel_rfl) rfl (okWide_bool_mk Tryd.underlying4 _))⟩
  rw [List.append_assoc, List.append_assoc]
  exact trodAll_mk4 (WideElems.Trod_stays Tryd.laidOut (by kernel_rfl) (of_decide_eq_true (by kernel_rfl)) k0 (fun x hx => hb.same (hlt x (by simp [hx]))) (fun x hx => hsp x (by simp [hx]))) (WideElems.Trod_stays Tryd.laidOut (by kernel_rfl) (of_decide_eq_true (by kernel_rfl)) k1 (fun x hx => hb.same (hlt x (by simp [hx]))) (fun x hx => hsp x (by simp [hx]))) (WideElems.Trod_stays Tryd.laidOut (by kernel_rfl) (of_decide_eq_true (by kernel_rfl)) k2 (fun x hx => hb.same (hlt x (by simp [hx]))) (fun x hx => hsp x (by simp [hx]))) (WideElems.Trod_stays Tryd.laidOut (by kernel_rfl) (of_decide_eq_true (by kernel_rfl)) k3 (fun x hx => hb.same (hlt x (by simp [hx]))) (fun x hx => hsp x (by simp [hx])))
theorem saidSlots : Rows.CommSlotsUptoSaid :=
  OpenClaim.holds_of_cond 5 Tryd.f5 rfl rfl rfl rfl rfl rfl rfl ⟨rfl, rfl, rfl, rfl, rfl⟩ rfl rfl rfl rfl rfl (by kernel_rfl) Tryd.func5 (by kernel_rfl)
    (of_decide_eq_true (by kernel_rfl)) (by unfold Func.isWrapper; first | (rw [if_pos (by decide +kernel)]; kernel_rfl) | (rw [if_neg (by decide +kernel)]; exact ⟨rfl, rfl⟩))
    (fun os started H enc _ F => by rw [OpenClaim.pre_eq_preRow]; exact liftedSlots os started H enc F)
theorem plainSlots (f : FuncId) (fn : Func) (hf : Tryd.pinned.checked.prog.funcNamed "pharos/pharoslaw14.CommSlots" = some f) (hfn : Tryd.pinned.checked.prog.funcs[f]? = some fn) :
    false = Tryd.pinned.checked.prog.looks [] ∧ ∀ (j : Nat) t, fn.params[j]? = some t → Tryd.pinned.checked.prog.wantsStandIn t = false := by
  obtain rfl : f = 5 := Option.some.inj ((show Tryd.prog.funcNamed "pharos/pharoslaw14.CommSlots" = some 5 by kernel_rfl).symm.trans hf) |>.symm
  obtain rfl : fn = Tryd.f5 := (Option.some.inj (Tryd.func5.symm.trans hfn)).symm
  refine ⟨by kernel_rfl, fun j t ht => ?_⟩
  rw [Tryd.params5] at ht
  have h2 : t = 49 ∨ t = 22 ∨ t = 61 := by simpa using Array.mem_of_getElem? ht
  rcases h2 with rfl | rfl | rfl
  · exact (show Tryd.prog.wantsStandIn 49 = false by kernel_rfl)
  · exact (show Tryd.prog.wantsStandIn 22 = false by kernel_rfl)
  · exact (show Tryd.prog.wantsStandIn 61 = false by kernel_rfl)
/-- The card. -/
theorem cardSlots : Rows.CommSlotsUptoCardSaid :=
  Claim7.holds_tied_plain_at .later [] _ _ _ _ saidSlots (fun _ h => by cases h) (by kernel_rfl) (fun _ h => by cases h) commSlotsUpto_row_tie rfl ⟨rfl, rfl⟩ (by kernel_rfl) rfl plainSlots (by kernel_rfl)
#print axioms cardSlots
end Go.Proofs.YtfnjcpopadpmbaaDoor
