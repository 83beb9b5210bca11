/- Types whose values are numbers and bools in a row ("flat"): '==' on two such values compares cell by cell. Over any program. -/
import Derived.Test.YtbfmbgeibhkheaaBase2
namespace Go.Proofs.Ytbfmbgeibhkheaa
open Go.RowKit

inductive LK where
  | int (k : IntKind)
  | bool
def leafFields (P : Program) (g : TypeId → Option (List LK)) : List Field → Nat → Option (List LK)
  | [], _ => some []
  | f :: fs, off => if f.name == "_" || f.offset != off then none else
    match g f.type with
    | some l => if (P.info? f.type).map (·.size) == some l.length then (leafFields P g fs (off + l.length)).map (l ++ ·) else none
    | none => none
/-- The cells' kinds of a flat type. -/
def leafs (P : Program) : Nat → TypeId → Option (List LK)
  | 0, _ => none
  | d + 1, t => match P.underlying t with
    | some .bool => some [.bool]
    | some (.int k) => some [.int k]
    | some (.array n e) => match leafs P d e with
      | some l => if (P.info? e).map (·.size) == some l.length then some (List.replicate n l).flatten else none
      | none => none
    | some (.struct fs) => if P.stoodInHeld t then none else leafFields P (leafs P d) fs.toList 0
    | _ => none
def LK.fit : LK → Value → Prop
  | .int k, v => ∃ n, v = .int k n
  | .bool, v => ∃ b, v = .bool b
def fits : List LK → List Value → Prop
  | [], [] => True
  | k :: ks, v :: vs => k.fit v ∧ fits ks vs
  | _, _ => False
def eqv : Value → Value → Bool
  | .int _ a, .int _ b => a == b
  | .bool a, .bool b => a == b
  | _, _ => false
def eqCells : List Value → List Value → Bool
  | [], [] => true
  | a :: as, b :: bs => eqv a b && eqCells as bs
  | _, _ => false
theorem fits_length : ∀ {l : List LK} {xs : List Value}, fits l xs → xs.length = l.length
  | [], [], _ => rfl
  | _ :: l, _ :: xs, h => by simp [fits_length (l := l) (xs := xs) h.2]
theorem fits_append : ∀ {l m : List LK} {xs : List Value}, fits (l ++ m) xs → fits l (xs.take l.length) ∧ fits m (xs.drop l.length)
  | [], m, xs, h => ⟨trivial, by simpa using h⟩
  | k :: l, m, v :: xs, h => by
    have := fits_append (l := l) (m := m) (xs := xs) h.2
    exact ⟨⟨h.1, this.1⟩, this.2⟩
theorem eqCells_append : ∀ (a b c d : List Value), a.length = b.length → eqCells (a ++ c) (b ++ d) = (eqCells a b && eqCells c d)
  | [], [], c, d, _ => by simp [eqCells]
  | x :: a, y :: b, c, d, h => by
    simp only [List.cons_append, eqCells, eqCells_append a b c d (by simpa using h), Bool.and_assoc]
/-- The value of these cells. -/
def asVal (P : Program) (t : TypeId) (xs : List Value) : Value :=
  match P.underlying t with
  | some (.struct _) | some (.array _ _) => .agg xs.toArray
  | _ => xs.headD undef
section
variable {P : Program}
theorem run_part (w : World) (t : TypeId) (s : Nat) (cs : List Value) (off : Nat) (hs : (P.info? t).map (·.size) = some s) (h1 : ∀ d, P.underlying t = some d → d.isRow = false → s = 1) (ho : off + s ≤ cs.length) (hu : ∃ d, P.underlying t = some d) :
    (part t cs.toArray off).run P w = .ok (asVal P t ((cs.drop off).take s)) w := by
  obtain ⟨d, hd⟩ := hu
  cases hq : P.info? t with
  | none => simp [hq] at hs
  | some j =>
    have hj : j.size = s := by simpa [hq] using hs
    have hagg : (isAgg t).run P w = .ok d.isRow w := by
      unfold isAgg
      rw [Sem.run_bind, run_underlying hd w]
      cases d <;> simp_all
    by_cases hr : d.isRow = true
    · have hv : asVal P t ((cs.drop off).take s) = .agg ((cs.drop off).take s).toArray := by
        unfold asVal; rw [hd]; cases d <;> simp_all
      rw [hv]
      simp [part, Sem.run_bind, hagg, hr, sizeOf, typeInfo, hq, hj, Result.andThen]
    · have hr' : d.isRow = false := by simpa using hr
      have hs1 := h1 d hd hr'
      subst hs1
      have hlt : off < cs.length := by omega
      have hv : asVal P t ((cs.drop off).take 1) = cs[off] := by
        have e : ((cs.drop off).take 1).headD undef = cs[off] := by rw [List.drop_eq_getElem_cons hlt]; rfl
        unfold asVal
        rw [hd]
        cases d <;> first | exact e | (simp [TypeDesc.isRow] at hr')
      rw [hv]
      simp [part, Sem.run_bind, hagg, hr', Result.andThen, hlt]
/-- A leaf has one cell. -/
theorem leafs_leaf {d : Nat} {t : TypeId} {l : List LK} (h : leafs P d t = some l) : ∀ e, P.underlying t = some e → e.isRow = false → l.length = 1 := by
  intro e he hr
  cases d with
  | zero => simp [leafs] at h
  | succ d =>
    unfold leafs at h
    rw [he] at h
    cases e <;> simp_all
    · subst h; rfl
    · subst h; rfl
theorem leafs_under {d : Nat} {t : TypeId} {l : List LK} (h : leafs P d t = some l) : ∃ e, P.underlying t = some e := by
  cases d with
  | zero => simp [leafs] at h
  | succ d =>
    unfold leafs at h
    cases he : P.underlying t with
    | none => rw [he] at h; simp at h
    | some e => exact ⟨e, rfl⟩

theorem eqFields_flat (g : TypeId → Option (List LK)) (D : Nat)
    (ih : ∀ t l, g t = some l → ∀ (w : World) (xs ys : List Value), fits l xs → fits l ys → (Op.equalIn D t (asVal P t xs) (asVal P t ys)).run P w = .ok (eqCells xs ys) w)
    (hl : ∀ t l, g t = some l → (∀ e, P.underlying t = some e → e.isRow = false → l.length = 1) ∧ ∃ e, P.underlying t = some e) :
    ∀ (fs : List Field) (off : Nat) (l : List LK), leafFields P g fs off = some l → ∀ (w : World) (xs ys : List Value), off ≤ xs.length → off ≤ ys.length → fits l (xs.drop off) → fits l (ys.drop off) →
      (Op.eqFields D xs.toArray ys.toArray fs).run P w = .ok (eqCells (xs.drop off) (ys.drop off)) w
  | [], off, l, h, w, xs, ys, _, _, hx, hy => by
    simp only [leafFields, Option.some.injEq] at h
    subst h
    have e1 := fits_length hx
    have e2 := fits_length hy
    rw [List.length_eq_zero_iff.1 e1, List.length_eq_zero_iff.1 e2]
    simp [Op.eqFields, eqCells]
  | f :: fs, off, l, h, w, xs, ys, ox, oy, hx, hy => by
    unfold leafFields at h
    split at h
    · cases h
    · rename_i hn
      simp only [Bool.or_eq_true, beq_iff_eq, bne_iff_ne, not_or, Decidable.not_not] at hn
      obtain ⟨hn, hoff⟩ := hn
      split at h
      · rename_i lf hg
        split at h
        · rename_i hsz
          have hsz' : (P.info? f.type).map (·.size) = some lf.length := by simpa using hsz
          obtain ⟨m, hm, rfl⟩ := Option.map_eq_some_iff.1 h
          obtain ⟨a1, a2⟩ := fits_append hx
          obtain ⟨b1, b2⟩ := fits_append hy
          rw [List.drop_drop] at a2 b2
          have lx := fits_length hx
          have ly := fits_length hy
          simp only [List.length_drop, List.length_append] at lx ly
          obtain ⟨h1, h2⟩ := hl _ _ hg
          have px := fun w => run_part (P := P) w f.type lf.length xs off hsz' h1 (by omega) h2
          have py := fun w => run_part (P := P) w f.type lf.length ys off hsz' h1 (by omega) h2
          have e0 := fun w => ih _ _ hg w _ _ a1 b1
          have rest := fun w => eqFields_flat g D ih hl fs (off + lf.length) m hm w xs ys (by omega) (by omega) a2 b2
          have ex : xs.drop off = (xs.drop off).take lf.length ++ xs.drop (off + lf.length) := by rw [← List.drop_drop, List.take_append_drop]
          have ey : ys.drop off = (ys.drop off).take lf.length ++ ys.drop (off + lf.length) := by rw [← List.drop_drop, List.take_append_drop]
          have hsplit : eqCells (xs.drop off) (ys.drop off) = (eqCells ((xs.drop off).take lf.length) ((ys.drop off).take lf.length) && eqCells (xs.drop (off + lf.length)) (ys.drop (off + lf.length))) := by
            conv => lhs; rw [ex, ey]
            rw [eqCells_append]
            rw [fits_length a1, fits_length b1]
          rw [hsplit]
          unfold Op.eqFields
          rw [if_pos hn]
          simp only [Sem.run_bind, hoff, px, py, Result.andThen, e0]
          cases eqCells ((xs.drop off).take lf.length) ((ys.drop off).take lf.length)
          · simp
          · simpa using rest w
        · cases h
      · cases h
/-- The elements of two arrays, one behind the other. -/
def eqElems (d : Nat) (e : TypeId) (n : Nat) (xs ys : Array Value) : List Nat → Sem Bool
  | [] => pure true
  | i :: is => do
    let a ← part e xs (i * n)
    let b ← part e ys (i * n)
    let r ← Op.equalIn d e a b
    if (!r) = true then pure false else eqElems d e n xs ys is
theorem run_equalIn_array (w : World) (d : Nat) (t e : TypeId) (len n : Nat) (xs ys : Array Value) (ht : P.underlying t = some (.array len e)) (hs : (P.info? e).map (·.size) = some n) :
    (Op.equalIn (d + 1) t (.agg xs) (.agg ys)).run P w = (eqElems d e n xs ys (List.range' 0 len)).run P w := by
  cases hq : P.info? e with
  | none => simp [hq] at hs
  | some j =>
    have hj : j.size = n := by simpa [hq] using hs
    simp only [Op.equalIn, Sem.run_bind, run_underlying ht, Result.andThen_ok, sizeOf, typeInfo, run_program, hq, hj, Sem.run_pure]
    rw [Std.Legacy.Range.forIn_eq_forIn_range']
    simp only [Std.Legacy.Range.size, Nat.sub_zero, Nat.add_sub_cancel, Nat.div_one]
    generalize List.range' 0 len 1 = l
    clear ht
    induction l generalizing w with
    | nil => simp [eqElems]
    | cons i l ih =>
      simp only [List.forIn_cons, eqElems, Sem.run_bind]
      generalize (part e xs (i * n)).run P w = r1
      cases r1 with
      | ok a w1 =>
        simp only [Result.andThen_ok]
        generalize (part e ys (i * n)).run P w1 = r2
        cases r2 with
        | ok b w2 =>
          simp only [Result.andThen_ok]
          generalize (Op.equalIn d e a b).run P w2 = r3
          cases r3 with
          | ok r w3 =>
            cases r
            · simp
            · simpa using ih w3
          | halt x w3 => simp [Result.andThen]
        | halt x w2 => simp [Result.andThen]
      | halt x w1 => simp [Result.andThen]
theorem fits_flatten : ∀ (n : Nat) (l : List LK) (xs : List Value), fits (List.replicate (n + 1) l).flatten xs → fits l (xs.take l.length) ∧ fits (List.replicate n l).flatten (xs.drop l.length) := by
  intro n l xs h
  rw [List.replicate_succ, List.flatten_cons] at h
  exact fits_append h
theorem eqElems_flat (D : Nat) (e : TypeId) (l : List LK) (hs : (P.info? e).map (·.size) = some l.length) (h1 : ∀ d, P.underlying e = some d → d.isRow = false → l.length = 1) (hu : ∃ d, P.underlying e = some d)
    (ih : ∀ (w : World) (xs ys : List Value), fits l xs → fits l ys → (Op.equalIn D e (asVal P e xs) (asVal P e ys)).run P w = .ok (eqCells xs ys) w) :
    ∀ (k i : Nat) (w : World) (xs ys : List Value), i * l.length ≤ xs.length → i * l.length ≤ ys.length → fits (List.replicate k l).flatten (xs.drop (i * l.length)) → fits (List.replicate k l).flatten (ys.drop (i * l.length)) →
      (eqElems D e l.length xs.toArray ys.toArray (List.range' i k)).run P w = .ok (eqCells (xs.drop (i * l.length)) (ys.drop (i * l.length))) w
  | 0, i, w, xs, ys, _, _, hx, hy => by
    have e1 := fits_length hx
    have e2 := fits_length hy
    simp only [List.replicate_zero, List.flatten_nil, List.length_nil] at e1 e2
    rw [List.length_eq_zero_iff.1 e1, List.length_eq_zero_iff.1 e2]
    simp [eqElems, eqCells]
  | k + 1, i, w, xs, ys, ox, oy, hx, hy => by
    obtain ⟨a1, a2⟩ := fits_flatten k l _ hx
    obtain ⟨b1, b2⟩ := fits_flatten k l _ hy
    rw [List.drop_drop] at a2 b2
    have lx := fits_length a1
    have ly := fits_length b1
    simp only [List.length_take, List.length_drop] at lx ly
    have e1 : i * l.length + l.length = (i + 1) * l.length := by rw [Nat.add_mul, Nat.one_mul]
    have px := fun w => run_part (P := P) w e l.length xs (i * l.length) hs h1 (by omega) hu
    have py := fun w => run_part (P := P) w e l.length ys (i * l.length) hs h1 (by omega) hu
    have e0 := fun w => ih w _ _ a1 b1
    rw [e1] at a2 b2
    have rest := fun w => eqElems_flat D e l hs h1 hu ih k (i + 1) w xs ys (by omega) (by omega) a2 b2
    have hsplit : eqCells (xs.drop (i * l.length)) (ys.drop (i * l.length)) = (eqCells ((xs.drop (i * l.length)).take l.length) ((ys.drop (i * l.length)).take l.length) && eqCells (xs.drop ((i + 1) * l.length)) (ys.drop ((i + 1) * l.length))) := by
      conv => lhs; rw [← List.take_append_drop l.length (xs.drop (i * l.length)), ← List.take_append_drop l.length (ys.drop (i * l.length))]
      rw [eqCells_append _ _ _ _ (by rw [fits_length a1, fits_length b1]), List.drop_drop, List.drop_drop, e1]
    rw [hsplit, List.range'_succ]
    unfold eqElems
    simp only [Sem.run_bind, px, py, Result.andThen, e0]
    cases eqCells ((xs.drop (i * l.length)).take l.length) ((ys.drop (i * l.length)).take l.length)
    · simp
    · simpa using rest w
/-- '==' at a flat type: cell by cell. -/
theorem equalIn_flat : ∀ (d : Nat) (t : TypeId) (l : List LK), leafs P d t = some l → ∀ (D : Nat), d ≤ D → ∀ (w : World) (xs ys : List Value), fits l xs → fits l ys →
    (Op.equalIn D t (asVal P t xs) (asVal P t ys)).run P w = .ok (eqCells xs ys) w
  | 0, t, l, h => by simp [leafs] at h
  | d + 1, t, l, h => by
    intro D hD w xs ys hx hy
    obtain ⟨D, rfl⟩ : ∃ E, D = E + 1 := ⟨D - 1, by omega⟩
    unfold leafs at h
    split at h
    · rename_i hu
      cases h
      match xs, ys, hx, hy with
      | [x], [y], hx, hy =>
        obtain ⟨a, rfl⟩ := hx.1
        obtain ⟨b, rfl⟩ := hy.1
        simp [asVal, hu, run_equalIn_bool w D t a b hu, eqCells, eqv]
    · rename_i k hu
      cases h
      match xs, ys, hx, hy with
      | [x], [y], hx, hy =>
        obtain ⟨a, rfl⟩ := hx.1
        obtain ⟨b, rfl⟩ := hy.1
        simp [asVal, hu, run_equalIn_int w D t k k a b hu, eqCells, eqv]
    · rename_i n e hu
      split at h
      · rename_i le hle
        split at h
        · rename_i hsz
          cases h
          have hsz' : (P.info? e).map (·.size) = some le.length := by simpa using hsz
          have ha : ∀ zs : List Value, asVal P t zs = .agg zs.toArray := fun zs => by unfold asVal; rw [hu]
          rw [ha, ha, run_equalIn_array w D t e n le.length _ _ hu hsz']
          have := eqElems_flat D e le hsz' (leafs_leaf hle) (leafs_under hle) (fun w xs ys a b => equalIn_flat d e le hle D (by omega) w xs ys a b) n 0 w xs ys (by omega) (by omega) (by simpa using hx) (by simpa using hy)
          simpa using this
        · cases h
      · cases h
    · rename_i fs hu
      split at h
      · cases h
      · rename_i hst
        have ha : ∀ zs : List Value, asVal P t zs = .agg zs.toArray := fun zs => by unfold asVal; rw [hu]
        have hf : P.fieldsOf t = fs := by unfold Program.fieldsOf; rw [hu]
        rw [ha, ha, run_equalIn_struct w D t _ _ (by rw [hf]; exact hu) (by simpa using hst), hf]
        have := eqFields_flat (leafs P d) D (fun t l hl w xs ys a b => equalIn_flat d t l hl D (by omega) w xs ys a b) (fun t l hl => ⟨leafs_leaf hl, leafs_under hl⟩) fs.toList 0 l h w xs ys (by omega) (by omega) (by simpa using hx) (by simpa using hy)
        simpa using this
    · cases h
end
end Go.Proofs.Ytbfmbgeibhkheaa
