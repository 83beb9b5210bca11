/- A start that fits, for a law over great structs: each cell is looked at once, so that the kernel's check is linear. And a row's post where only new blocks were laid. -/
import Derived.Test.YtbfmbgeibhkheaaBase2
import Derived.Test.YtbfmbgeibhkheaaRows
import Derived.ProofKit
namespace Go.Proofs.Ytbfmbgeibhkheaa
open Go.ChangeShapes Go.WideShapes Go.ChangeAt Go.RowKit

theorem Try.own : ownKnob Try.prog.godebug = none := by kernel_rfl
theorem Try.laidOut : laidOutB Try.prog = true := by kernel_rfl

def chk2 (P : Program) (w : World) : List TypeId → List Value → Bool
  | [], [] => true
  | u :: us, v :: vs => Cell.okWideB P w u v && chk2 P w us vs
  | _, _ => false
theorem chk2_get {P : Program} {w : World} : ∀ {us : List TypeId} {vs : List Value}, chk2 P w us vs = true → us.length = vs.length ∧ ∀ (i : Nat) v u, vs[i]? = some v → us[i]? = some u → Cell.okWideB P w u v = true
  | [], [], _ => ⟨rfl, fun i v u h => by simp at h⟩
  | [], _ :: _, h => by simp [chk2] at h
  | _ :: _, [], h => by simp [chk2] at h
  | u :: us, v :: vs, h => by
    simp only [chk2, Bool.and_eq_true] at h
    obtain ⟨h1, h2⟩ := chk2_get h.2
    refine ⟨by simp [h1], fun i v' u' hv hu => ?_⟩
    cases i with
    | zero =>
      simp only [List.getElem?_cons_zero, Option.some.injEq] at hv hu
      rw [← hv, ← hu]
      exact h.1
    | succ i => exact h2 i v' u' (by simpa using hv) (by simpa using hu)
def rowB2 (P : Program) (w : World) (t : TypeId) (cs : List Value) : Bool := match P.cellTypes P.depth t with | some ts => chk2 P w ts cs | none => false
theorem okWideRow_of_2 {P : Program} {w : World} {t : TypeId} {cs : Array Value} (h : rowB2 P w t cs.toList = true) : Cell.okWideRowB P w t cs = true := by
  unfold rowB2 at h
  unfold Cell.okWideRowB
  split at h
  · rename_i ts hts
    obtain ⟨hl, hg⟩ := chk2_get h
    have hl' : ts.length = cs.size := by simpa using hl
    rw [hts]
    simp only [Bool.and_eq_true, beq_iff_eq, List.all_eq_true, List.mem_range]
    refine ⟨by rw [hl']; exact Nat.mod_self _, fun i hi => ?_⟩
    have h1 : ts[i]? = some ts[i] := List.getElem?_eq_getElem (by omega)
    have h2 : cs[i]? = some cs[i] := Array.getElem?_eq_getElem hi
    rw [hl', Nat.mod_eq_of_lt hi, h1, h2]
    exact hg i _ _ (by simp) h1
  · cases h
theorem okWideB_agg {P : Program} {w : World} {t : TypeId} {cs : Array Value} {d : TypeDesc} (hu : P.underlying t = some d) (hd : d.isRow = true) (hs : (cs.size == P.cellsOf t) = true) (h : rowB2 P w t cs.toList = true) : Value.okWideB P w t (.agg cs) = true := by
  unfold Value.okWideB
  rw [hu]
  cases d <;> simp_all [TypeDesc.isRow, okWideRow_of_2]
theorem okWideB_of {P : Program} {w : World} {f : FuncId} {fn : Func} {args : Array Value} (hi : (P.inits.idxOf? f).isNone = true) (hf : P.funcs[f]? = some fn) (hs : (fn.body.isSome && !fn.ours && fn.nfree == 0 && args.size == fn.params.size) = true)
    (hv : ∀ (j : Nat) t v, fn.params[j]? = some t → args[j]? = some v → Value.okWideB P w t v = true) : Input.okWideB P w f ⟨#[], args, []⟩ = true := by
  unfold Input.okWideB
  simp only [hi, hf, hs, Bool.and_true, Bool.true_and, List.isEmpty_nil, List.all_nil, List.all_eq_true, List.mem_range]
  intro j hj
  have hz : args.size = fn.params.size := by simp only [Bool.and_eq_true, beq_iff_eq] at hs; exact hs.2
  have h1 : fn.params[j]? = some fn.params[j] := Array.getElem?_eq_getElem hj
  have h2 : args[j]? = some args[j] := Array.getElem?_eq_getElem (by omega)
  rw [h1, h2]
  exact hv j _ _ h1 h2

/-- A row's post where the world below what stood has stayed: what a call leaves behind is new blocks. -/
theorem post_of_below {H : Type} {enc : TypeId × Value → H} {P : Program} {f : Func} {s : ChangeSpec} {apart fresh handsOn again : Bool} {W W' : World} {args : Array Value} {v : Value} {ds gs : List (DataW H)} {before pa pv : List MemPlace}
    (hW : DataW.Whole enc P f.params.toList s.vars apart W args.toList ds gs before)
    (hres : ∀ (b : Nat) (sp : Nat → Bool) (hd : Bool), DataW.TrodAll enc P W' b sp hd f.resultTypes.toList (v.resultList f.resultTypes.size) (s.fn H (ds ++ gs)).results [])
    (hargs : ∀ sp : Nat → Bool, (∀ p ∈ before, sp p.block = true) → DataW.TrodAll enc P W' 0 sp true f.params.toList args.toList (s.fn H (ds ++ gs)).args pa)
    (hvars : ∀ sp : Nat → Bool, (∀ p ∈ before, sp p.block = true) → DataW.TrodVars enc P W' sp s.vars (s.fn H (ds ++ gs)).vars pv)
    (hps : before = pa ++ pv) (hb : Below W.heap.size W W')
    (hok : ∀ (j : Nat) (t : TypeId) (r : Value), f.resultTypes[j]? = some t → (v.resultList f.resultTypes.size)[j]? = some r → Value.okWide P W' .any 0 t r) :
    s.post enc P f apart fresh handsOn again W args v W' := by
  have hlt := hW.lt
  have hold : ∀ p ∈ before, (fun b => decide (b < W.heap.size)) p.block = true := fun p hp => by simpa using hW.lt p hp
  refine ⟨ds, gs, before, [], pa, pv, hW, hres _ _ _, hargs _ hold, hvars _ hold, World.keptBut_mono (fun p hp => ⟨hp, ?_⟩) (hb.frame (· ∈ before)), fun _ => ?_⟩
  · rw [hps, List.mem_append] at hp
    exact Or.inr hp
  · obtain ⟨_, _, _, _, _, hz, hn⟩ := hW
    refine ⟨hok, _, _, ([] ++ pa) ++ pv, ⟨[] ++ pa, pv, trodAll_append (hargs _ (fun _ _ => rfl)) (hres _ _ _), hvars _ (fun _ _ => rfl), rfl, ?_, ?_⟩, ?_⟩
    · intro b off hp
      have hp' : MemPlace.cell b off ∈ before := by rw [hps]; simpa using hp
      rw [hb.frozen (hlt _ hp')]
      exact hz b off hp'
    · intro ha
      have := hn ha
      rw [hps] at this
      simpa using this
    · intro p hp _
      rw [hps]
      simpa using hp
end Go.Proofs.Ytbfmbgeibhkheaa
