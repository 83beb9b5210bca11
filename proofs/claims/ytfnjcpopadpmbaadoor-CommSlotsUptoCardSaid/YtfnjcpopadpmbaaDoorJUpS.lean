/- An argument that reads as data, opened down to its cells: each cell of a struct or array of whatever depth reads at its own type; slices of structs of numbers as rows. Over any program. -/
/- A start that fits, for a law over great structs: each cell is looked at once, so that the kernel's check is linear. And a row's post where only new blocks were laid. -/
import Derived.Test.YtfnjcpopadpmbaaDoorJG
import Derived.ProofKit
import Derived.OpenShut
import Derived.Deep.Slices
import Derived.Test.YtfnjcpopadpmbaaDoorRows
set_option linter.unusedVariables false
set_option linter.unusedSimpArgs false
set_option linter.unnecessarySimpa false
namespace Go.Proofs.YtfnjcpopadpmbaaDoor
open Go.RowKit Go.ChangeShapes Go.WideShapes Go.Deep

def leafTF (P : Program) (g : TypeId → Option (List TypeId)) : List Field → Nat → Option (List TypeId)
  | [], _ => some []
  | f :: fs, off => if f.offset != off then none else
    match g f.type with
    | some l => if P.cellsOf f.type == l.length then (leafTF P g fs (off + l.length)).map (l ++ ·) else none
    | none => none
/-- The types of the cells of a type, those of structs and arrays taken apart. -/
def leafT (P : Program) : Nat → TypeId → Option (List TypeId)
  | 0, _ => none
  | d + 1, t => match P.underlying t with
    | some (.array n e) => match leafT P d e with
      | some l => if P.cellsOf e == l.length then some (List.replicate n l).flatten else none
      | none => none
    | some (.struct fs) => leafTF P (leafT P d) fs.toList 0
    | some _ => some [t]
    | none => none
section
variable {H : Type} {enc : TypeId × Value → H} {P : Program} {w : World} {base : Nat} {spare : Nat → Bool} {held : Bool}
/-- Each cell reads at its type. -/
def trodL (enc : TypeId × Value → H) (P : Program) (w : World) (base : Nat) (spare : Nat → Bool) (held : Bool) : List TypeId → List Value → Prop
  | [], [] => True
  | t :: ts, v :: vs => (∃ fuel x, DataW.trod enc P w base spare held fuel t [v] = some x) ∧ trodL enc P w base spare held ts vs
  | _, _ => False
theorem trodL_length : ∀ {ts : List TypeId} {cs : List Value}, trodL enc P w base spare held ts cs → cs.length = ts.length
  | [], [], _ => rfl
  | _ :: ts, _ :: cs, h => by simp [trodL_length (ts := ts) (cs := cs) h.2]
theorem trodL_append : ∀ {a b : List TypeId} {cs ds : List Value}, trodL enc P w base spare held a cs → trodL enc P w base spare held b ds → trodL enc P w base spare held (a ++ b) (cs ++ ds)
  | [], _, [], _, _, h => h
  | _ :: a, _, _ :: cs, _, h, k => ⟨h.1, trodL_append (a := a) (cs := cs) h.2 k⟩
theorem trodL_get : ∀ {ts : List TypeId} {cs : List Value}, trodL enc P w base spare held ts cs → ∀ (i : Nat) (t : TypeId), ts[i]? = some t → ∃ v, cs[i]? = some v ∧ ∃ fuel x, DataW.trod enc P w base spare held fuel t [v] = some x
  | t :: ts, v :: cs, h, 0, u, hi => by
    simp at hi
    subst hi
    exact ⟨v, rfl, h.1⟩
  | t :: ts, v :: cs, h, i + 1, u, hi => by
    obtain ⟨v', h1, h2⟩ := trodL_get h.2 i u (by simpa using hi)
    exact ⟨v', by simpa using h1, h2⟩
theorem trod_leaf {fuel : Nat} {t : TypeId} {cs : List Value} {x : DataW H × List MemPlace} {d : TypeDesc} (hu : P.underlying t = some d) (hd : d.isRow = false) (h : DataW.trod enc P w base spare held fuel t cs = some x) : ∃ v, cs = [v] := by
  cases fuel with
  | zero => simp [DataW.trod] at h
  | succ n =>
    unfold DataW.trod at h
    rw [hu] at h
    cases d <;> simp [TypeDesc.isRow] at hd <;> (split at h <;> first | (exact ⟨_, rfl⟩) | (simp_all; done) | simp_all)
theorem fields_open (g : TypeId → Option (List TypeId)) (cs : List Value) : ∀ (fs : List Field) (off : Nat) (l : List TypeId), leafTF P g fs off = some l →
    (∀ f ∈ fs, ∀ lf, g f.type = some lf → P.cellsOf f.type = lf.length → trodL enc P w base spare held lf ((cs.drop f.offset).take (P.cellsOf f.type))) → off + l.length = cs.length → trodL enc P w base spare held l (cs.drop off)
  | [], off, l, h, _, hl => by
    simp only [leafTF, Option.some.injEq] at h
    subst h
    simp at hl
    rw [List.drop_eq_nil_of_le (by omega)]
    trivial
  | f :: fs, off, l, h, hf, hl => by
    unfold leafTF at h
    split at h
    · cases h
    · rename_i hoff
      simp only [bne_iff_ne, ne_eq, Decidable.not_not] at hoff
      split at h
      · rename_i lf hg
        split at h
        · rename_i hs
          have hs' : P.cellsOf f.type = lf.length := by simpa using hs
          obtain ⟨m, hm, rfl⟩ := Option.map_eq_some_iff.1 h
          have a1 := hf f (by simp) lf hg hs'
          rw [hoff, hs'] at a1
          have a2 := fields_open g cs fs (off + lf.length) m hm (fun f' h' => hf f' (by simp [h'])) (by simp at hl; omega)
          rw [← List.drop_drop] at a2
          have := trodL_append a1 a2
          rwa [List.take_append_drop] at this
        · cases h
      · cases h
theorem elems_open (l : List TypeId) (cs : List Value) : ∀ (k i : Nat), (∀ j, i ≤ j → j < i + k → trodL enc P w base spare held l ((cs.drop (j * l.length)).take l.length)) → (i + k) * l.length = cs.length →
    trodL enc P w base spare held (List.replicate k l).flatten (cs.drop (i * l.length))
  | 0, i, _, hl => by
    rw [List.drop_eq_nil_of_le (by simp at hl; omega)]
    trivial
  | k + 1, i, h, hl => by
    have a1 := h i (by omega) (by omega)
    have a2 := elems_open l cs k (i + 1) (fun j h1 h2 => h j (by omega) (by omega)) (by rw [← hl]; congr 1; omega)
    rw [show (i + 1) * l.length = i * l.length + l.length by rw [Nat.add_mul, Nat.one_mul], ← List.drop_drop] at a2
    have := trodL_append a1 a2
    rw [List.take_append_drop] at this
    rw [List.replicate_succ, List.flatten_cons]
    exact this
/-- THE LAW: what reads, reads cell by cell. -/
theorem trod_cells : ∀ (d : Nat) (t : TypeId) (l : List TypeId), leafT P d t = some l → P.cellsOf t = l.length → ∀ (fuel : Nat) (cs : List Value) (x : DataW H × List MemPlace), DataW.trod enc P w base spare held fuel t cs = some x →
    trodL enc P w base spare held l cs
  | 0, t, l, h => by simp [leafT] at h
  | d + 1, t, l, h => by
    intro hc fuel cs x hx
    unfold leafT at h
    split at h
    · rename_i n e hu
      split at h
      · rename_i le hle
        split at h
        · rename_i hs
          cases h
          have hs' : P.cellsOf e = le.length := by simpa using hs
          obtain ⟨xs, m, _, _, hlen, hxl, hel⟩ := DataW.trod_array hu hx
          have := elems_open (enc := enc) (P := P) (w := w) (base := base) (spare := spare) (held := held) le cs n 0 (fun j _ hj => by
            have hj' : j < n := by omega
            have := hel j hj'
            rw [hs', List.getElem?_eq_getElem (by omega)] at this
            exact trod_cells d e le hle hs' m _ _ this) (by rw [hlen, hc]; simp)
          simpa using this
        · cases h
      · cases h
    · rename_i fs hu
      obtain ⟨xs, m, _, _, hlen, hxl, hf⟩ := DataW.trod_struct hu hx
      have := fields_open (enc := enc) (w := w) (base := base) (spare := spare) (held := held) (leafT P d) cs fs.toList 0 l h (fun f hfm lf hlf hsz => by
        obtain ⟨i, hi⟩ := List.mem_iff_getElem?.1 hfm
        have := hf i f (by simpa using hi)
        have hil : i < xs.length := by
          have := (List.getElem?_eq_some_iff.1 hi).1
          simp at this
          omega
        rw [List.getElem?_eq_getElem hil] at this
        exact trod_cells d f.type lf hlf hsz m _ _ this) (by rw [hlen, hc]; simp)
      simpa using this
    · rename_i dd hna hns hu
      cases h
      obtain ⟨v, rfl⟩ := trod_leaf hu (by cases dd <;> simp_all [TypeDesc.isRow]) hx
      exact ⟨⟨fuel, x, hx⟩, trivial⟩
    · cases h
theorem Addr.ext' {a : Addr} (h : a.spot = none) : a = ⟨a.block, a.off, none⟩ := by
  cases a
  subst h
  rfl
/-- Does a cell's type say this kind? -/
def CK.isB (P : Program) (t : TypeId) : CK → Bool
  | .u8 => match P.underlying t with | some (.int .u8) => true | _ => false
  | .u64 => match P.underlying t with | some (.int .u64) => true | _ => false
  | .bool => match P.underlying t with | some .bool => true | _ => false
theorem cell_kind {fuel : Nat} {t : TypeId} {v : Value} {x : DataW H × List MemPlace} {c : CK} (hc : CK.isB P t c = true) (h : DataW.trod enc P w base spare held fuel t [v] = some x) : v = c.mk (num v) ∧ c.ok (num v) := by
  cases c
  · simp only [CK.isB] at hc
    split at hc
    · rename_i hu
      obtain ⟨n, e, _, hw⟩ := DataW.trod_int hu h
      cases e
      simp [Lit.wf, IntKind.min, IntKind.max, IntKind.signed, IntKind.bits] at hw
      exact ⟨rfl, by simp only [CK.ok, num]; omega⟩
    · cases hc
  · simp only [CK.isB] at hc
    split at hc
    · rename_i hu
      obtain ⟨n, e, _, hw⟩ := DataW.trod_int hu h
      cases e
      simp [Lit.wf, IntKind.min, IntKind.max, IntKind.signed, IntKind.bits] at hw
      exact ⟨rfl, by simp only [CK.ok, num]; omega⟩
    · cases hc
  · simp only [CK.isB] at hc
    split at hc
    · rename_i hu
      obtain ⟨b, e, _⟩ := DataW.trod_bool hu h
      cases e
      cases b <;> exact ⟨rfl, by simp [CK.ok, num]⟩
    · cases hc
/-- The kinds of an element's cells. -/
def kdB (P : Program) (d : Nat) (e : TypeId) (sz : Nat) (kd : Nat → CK) : Bool :=
  match leafT P d e with
  | some l => l.length == sz && P.cellsOf e == sz && (List.range sz).all fun j => CK.isB P (l.getD j 0) (kd j)
  | none => false
theorem flat_open {d : Nat} {e : TypeId} {sz : Nat} {kd : Nat → CK} (hk : kdB P d e sz kd = true) {fuel : Nat} {cs : List Value} {x : DataW H × List MemPlace} (h : DataW.trod enc P w base spare held fuel e cs = some x) :
    cs.length = sz ∧ ∀ j, j < sz → ∃ v, cs[j]? = some v ∧ v = (kd j).mk (num v) ∧ (kd j).ok (num v) := by
  unfold kdB at hk
  split at hk
  · rename_i l hl
    simp only [Bool.and_eq_true, beq_iff_eq, List.all_eq_true, List.mem_range] at hk
    obtain ⟨⟨h1, h2⟩, h3⟩ := hk
    have ht := trod_cells d e l hl (by omega) fuel cs x h
    refine ⟨by rw [trodL_length ht, h1], fun j hj => ?_⟩
    obtain ⟨v, hv, f, y, hy⟩ := trodL_get ht j (l.getD j 0) (by simp [List.getD, show j < l.length by omega])
    exact ⟨v, hv, cell_kind (h3 j hj) hy⟩
  · cases hk
theorem rows_open {t e : TypeId} {d sz : Nat} {kd : Nat → CK} (hu : P.underlying t = some (.slice e)) (hk : kdB P d e sz kd = true) (hsz : P.cellsOf e = sz) (h0 : 0 < sz) {fuel : Nat} {v : Value} {x : DataW H × List MemPlace}
    (h : DataW.trod enc P w base spare held fuel t [v] = some x) : ∃ va cap l, v = .slice va l.length cap ∧ Rows w va sz kd l ∧ l.length ≤ 9223372036854775807 := by
  rcases open_slice hu h with ⟨hc, _⟩ | ⟨a, len, cap, m, n, D, Pl, hc, hb, hl, hm, hmm, _, hx⟩
  · simp only [List.cons.injEq, and_true] at hc
    exact ⟨none, 0, [], hc, ⟨fun i hi => by simp at hi, fun f hf => by simp at hf⟩, by simp⟩
  · simp only [List.cons.injEq, and_true] at hc
    have hlm : len ≤ m := by rw [hmm]; split <;> omega
    refine ⟨some a, cap, (List.range len).map fun i j => num ((w.cell? (a.add (i * sz + j))).getD undef), by simpa using hc, ⟨?_, ?_⟩, by simp [maxLen] at hm ⊢; omega⟩
    · intro i hi
      have hi' : i < len := by simpa using hi
      have hspot : a = ⟨a.block, a.off, none⟩ := by
        obtain ⟨cs', h1, h2⟩ := hx 0 (by omega)
        obtain ⟨hl1, hget⟩ := flat_open hk h2
        obtain ⟨v0, hv0, _⟩ := hget 0 h0
        have := (World.cells?_some h1).2.2 0 (by omega)
        rw [hv0] at this
        simp only [Nat.zero_mul, Addr.add, if_true] at this
        have hs : a.spot = none := by
          unfold World.cell? at this
          split at this
          · split at this
            · cases this
            · rename_i hns
              simpa using hns
          · cases this
        exact Addr.ext' hs
      refine ⟨a.block, a.off, by rw [← hspot], fun j hj => ?_⟩
      obtain ⟨cs', h1, h2⟩ := hx i (by omega)
      obtain ⟨hl1, hget⟩ := flat_open hk h2
      obtain ⟨v0, hv0, hk0, _⟩ := hget j hj
      have := (World.cells?_some h1).2.2 j (by omega)
      rw [hv0, add_add, hsz, hspot] at this
      have e1 : (⟨a.block, a.off, none⟩ : Addr).add (i * sz + j) = ⟨a.block, a.off + i * sz + j, none⟩ := by
        rw [Addr.add_mid, Nat.add_assoc]
      rw [e1] at this
      rw [this]
      simp only [List.getD, List.getElem?_map, List.getElem?_range hi', Option.map_some, Option.getD_some]
      rw [hspot, e1, this, Option.getD_some]
      exact congrArg some hk0
    · intro f hf j hj
      obtain ⟨i, hi, rfl⟩ := List.mem_map.1 hf
      have hi' : i < len := by simpa using hi
      obtain ⟨cs', h1, h2⟩ := hx i (by omega)
      obtain ⟨hl1, hget⟩ := flat_open hk h2
      obtain ⟨v0, hv0, _, hok⟩ := hget j hj
      have := (World.cells?_some h1).2.2 j (by omega)
      rw [hv0, add_add, hsz] at this
      show (kd j).ok (num ((w.cell? (a.add (i * sz + j))).getD undef))
      rw [this]
      exact hok
theorem row_open {t e : TypeId} {d : Nat} {c : CK} (hu : P.underlying t = some (.slice e)) (hk : kdB P d e 1 (fun _ => c) = true) (hsz : P.cellsOf e = 1) {fuel : Nat} {v : Value} {x : DataW H × List MemPlace}
    (h : DataW.trod enc P w base spare held fuel t [v] = some x) : ∃ va cap l, v = .slice va l.length cap ∧ Row w va c l ∧ l.length ≤ 9223372036854775807 := by
  obtain ⟨va, cap, l, hv, hr, hl⟩ := rows_open hu hk hsz (by omega) h
  refine ⟨va, cap, l.map (· 0), by simpa using hv, ⟨fun i hi => ?_, fun n hn => ?_⟩, by simpa using hl⟩
  · have hi' : i < l.length := by simpa using hi
    obtain ⟨b, o, e, hc⟩ := hr.cell i hi'
    refine ⟨b, o, e, ?_⟩
    have := hc 0 (by omega)
    simp only [Nat.mul_one, Nat.add_zero] at this
    rw [this]
    simp [List.getD, hi']
  · obtain ⟨f, hf, rfl⟩ := List.mem_map.1 hn
    exact hr.ok f hf 0 (by omega)
end
end Go.Proofs.YtfnjcpopadpmbaaDoor
namespace Go.Proofs.YtfnjcpopadpmbaaDoor
open Go.ChangeShapes Go.WideShapes Go.ChangeAt Go.RowKit

theorem Tryd.own : ownKnob Tryd.prog.godebug = none := by kernel_rfl
theorem Tryd.laidOut : laidOutB Tryd.prog = true := by kernel_rfl

def chk2 (P : Program) (w : World) : List TypeId → List Value → Bool
  | [], [] => true
  | u :: us, v :: vs => Cell.okWideB P w u v && chk2 P w us vs
  | _, _ => false
theorem chk2_get {P : Program} {w : World} : ∀ {us : List TypeId} {vs : List Value}, chk2 P w us vs = true → us.length = vs.length ∧ ∀ (i : Nat) v u, vs[i]? = some v → us[i]? = some u → Cell.okWideB P w u v = true
  | [], [], _ => ⟨rfl, fun i v u h => by simp at h⟩
  | [], _ :: _, h => by simp [chk2] at h
  | _ :: _, [], h => by simp [chk2] at h
  | u :: us, v :: vs, h => by
    simp only [chk2, Bool.and_eq_true] at h
    obtain ⟨h1, h2⟩ := chk2_get h.2
    refine ⟨by simp [h1], fun i v' u' hv hu => ?_⟩
    cases i with
    | zero =>
      simp only [List.getElem?_cons_zero, Option.some.injEq] at hv hu
      rw [← hv, ← hu]
      exact h.1
    | succ i => exact h2 i v' u' (by simpa using hv) (by simpa using hu)
def rowB2 (P : Program) (w : World) (t : TypeId) (cs : List Value) : Bool := match P.cellTypes P.depth t with | some ts => chk2 P w ts cs | none => false
theorem okWideRow_of_2 {P : Program} {w : World} {t : TypeId} {cs : Array Value} (h : rowB2 P w t cs.toList = true) : Cell.okWideRowB P w t cs = true := by
  unfold rowB2 at h
  unfold Cell.okWideRowB
  split at h
  · rename_i ts hts
    obtain ⟨hl, hg⟩ := chk2_get h
    have hl' : ts.length = cs.size := by simpa using hl
    rw [hts]
    simp only [Bool.and_eq_true, beq_iff_eq, List.all_eq_true, List.mem_range]
    refine ⟨by rw [hl']; exact Nat.mod_self _, fun i hi => ?_⟩
    have h1 : ts[i]? = some ts[i] := List.getElem?_eq_getElem (by omega)
    have h2 : cs[i]? = some cs[i] := Array.getElem?_eq_getElem hi
    rw [hl', Nat.mod_eq_of_lt hi, h1, h2]
    exact hg i _ _ (by simp) h1
  · cases h
theorem okWideB_agg {P : Program} {w : World} {t : TypeId} {cs : Array Value} {d : TypeDesc} (hu : P.underlying t = some d) (hd : d.isRow = true) (hs : (cs.size == P.cellsOf t) = true) (h : rowB2 P w t cs.toList = true) : Value.okWideB P w t (.agg cs) = true := by
  unfold Value.okWideB
  rw [hu]
  cases d <;> simp_all [TypeDesc.isRow, okWideRow_of_2]
theorem okWideB_of {P : Program} {w : World} {f : FuncId} {fn : Func} {args : Array Value} (hi : (P.inits.idxOf? f).isNone = true) (hf : P.funcs[f]? = some fn) (hs : (fn.body.isSome && !fn.ours && fn.nfree == 0 && args.size == fn.params.size) = true)
    (hv : ∀ (j : Nat) t v, fn.params[j]? = some t → args[j]? = some v → Value.okWideB P w t v = true) : Input.okWideB P w f ⟨#[], args, []⟩ = true := by
  unfold Input.okWideB
  simp only [hi, hf, hs, Bool.and_true, Bool.true_and, List.isEmpty_nil, List.all_nil, List.all_eq_true, List.mem_range]
  intro j hj
  have hz : args.size = fn.params.size := by simp only [Bool.and_eq_true, beq_iff_eq] at hs; exact hs.2
  have h1 : fn.params[j]? = some fn.params[j] := Array.getElem?_eq_getElem hj
  have h2 : args[j]? = some args[j] := Array.getElem?_eq_getElem (by omega)
  rw [h1, h2]
  exact hv j _ _ h1 h2

/-- A row's post where the world below what stood has stayed: what a call leaves behind is new blocks. -/
theorem post_of_below {H : Type} {enc : TypeId × Value → H} {P : Program} {f : Func} {s : ChangeSpec} {apart fresh handsOn again : Bool} {W W' : World} {args : Array Value} {v : Value} {ds gs : List (DataW H)} {before pa pv : List MemPlace}
    (hW : DataW.Whole enc P f.params.toList s.vars apart W args.toList ds gs before)
    (hres : ∀ (b : Nat) (sp : Nat → Bool) (hd : Bool), DataW.TrodAll enc P W' b sp hd f.resultTypes.toList (v.resultList f.resultTypes.size) (s.fn H (ds ++ gs)).results [])
    (hargs : ∀ sp : Nat → Bool, (∀ p ∈ before, sp p.block = true) → DataW.TrodAll enc P W' 0 sp true f.params.toList args.toList (s.fn H (ds ++ gs)).args pa)
    (hvars : ∀ sp : Nat → Bool, (∀ p ∈ before, sp p.block = true) → DataW.TrodVars enc P W' sp s.vars (s.fn H (ds ++ gs)).vars pv)
    (hps : before = pa ++ pv) (hb : Below W.heap.size W W')
    (hok : ∀ (j : Nat) (t : TypeId) (r : Value), f.resultTypes[j]? = some t → (v.resultList f.resultTypes.size)[j]? = some r → Value.okWide P W' .any 0 t r) :
    s.post enc P f apart fresh handsOn again W args v W' := by
  have hlt := hW.lt
  have hold : ∀ p ∈ before, (fun b => decide (b < W.heap.size)) p.block = true := fun p hp => by simpa using hW.lt p hp
  refine ⟨ds, gs, before, [], pa, pv, hW, hres _ _ _, hargs _ hold, hvars _ hold, World.keptBut_mono (fun p hp => ⟨hp, ?_⟩) (hb.frame (· ∈ before)), fun _ => ?_⟩
  · rw [hps, List.mem_append] at hp
    exact Or.inr hp
  · obtain ⟨_, _, _, _, _, hz, hn⟩ := hW
    refine ⟨hok, _, _, ([] ++ pa) ++ pv, ⟨[] ++ pa, pv, trodAll_append (hargs _ (fun _ _ => rfl)) (hres _ _ _), hvars _ (fun _ _ => rfl), rfl, ?_, ?_⟩, ?_⟩
    · intro b off hp
      have hp' : MemPlace.cell b off ∈ before := by rw [hps]; simpa using hp
      rw [hb.frozen (hlt _ hp')]
      exact hz b off hp'
    · intro ha
      have := hn ha
      rw [hps] at this
      simpa using this
    · intro p hp _
      rw [hps]
      simpa using hp
end Go.Proofs.YtfnjcpopadpmbaaDoor
