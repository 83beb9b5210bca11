/- The library's sort at uint64: what is sorted about a part that is not yet. -/
/- The library's sort at uint64: pdqsortOrdered, the end of a round. -/
/- The library's sort at uint64: pdqsortOrdered, a round's middle. -/
/- The library's sort at uint64: pdqsortOrdered, the whole; slices.Sort. -/
/- slices.Sort at uint64: what it leaves is the list in rising order. -/
import Derived.Test.YtfnjcpopadpmbaaDoorJSoL
import Derived.Test.YtfnjcpopadpmbaaDoorJSoN
import Derived.Test.YtfnjcpopadpmbaaDoorKSoF
import Derived.Test.YtfnjcpopadpmbaaDoorJSoH
import Derived.Test.YtfnjcpopadpmbaaDoorJSoC
import Derived.Test.YtfnjcpopadpmbaaDoorKCmI
import Derived.Test.YtfnjcpopadpmbaaDoorKCmJ
set_option linter.unusedVariables false
set_option linter.unusedSimpArgs false
set_option linter.unnecessarySimpa false
namespace Go.Proofs.YtfnjcpopadpmbaaDoor
open Go.RowKit BigFrame
set_option maxRecDepth 100000
/-- Of a0 up to b0 all stands in order but for what stands from a up to b among itself. -/
def Rest (a0 b0 a b : Nat) (L : List Int) : Prop := ∀ p q, a0 ≤ p → p ≤ q → q < b0 → (p < a ∨ b ≤ q) → L.getD p 0 ≤ L.getD q 0
theorem Rest.start (a b : Nat) (L : List Int) : Rest a b a b L := fun p q h1 h2 h3 h4 => by omega
theorem Rest.seg {a0 b0 a b : Nat} {L M : List Int} (h : Rest a0 b0 a b L) (s : SegP a b L M) (ha : a0 ≤ a) (hb : b ≤ b0) : Rest a0 b0 a b M := fun p q h1 h2 h3 h4 => by
  by_cases c1 : a ≤ p ∧ p < b
  · obtain ⟨z, z1, z2, z3⟩ := s.mem p c1.1 c1.2
    rw [z3, s.out q (by omega)]
    exact h z q (by omega) (by omega) h3 (by omega)
  · by_cases c2 : a ≤ q ∧ q < b
    · obtain ⟨z, z1, z2, z3⟩ := s.mem q c2.1 c2.2
      rw [z3, s.out p (by omega)]
      exact h p z h1 (by omega) (by omega) (by omega)
    · rw [s.out p (by omega), s.out q (by omega)]
      exact h p q h1 h2 h3 h4
theorem Rest.done {a0 b0 a b : Nat} {L : List Int} (h : Rest a0 b0 a b L) (s : SortedIn a b L) : SortedIn a0 b0 L := fun p q h1 h2 h3 => by
  by_cases c : p < a ∨ b ≤ q
  · exact h p q h1 h2 h3 c
  · exact s p q (by omega) h2 (by omega)
/-- What a partition leaves: about mid. -/
structure Mid (a b mid : Nat) (L : List Int) : Prop where
  lo : ∀ z, a ≤ z → z < mid → L.getD z 0 < L.getD mid 0
  hi : ∀ z, mid < z → z < b → L.getD mid 0 ≤ L.getD z 0
theorem Rest.left {a0 b0 a b mid : Nat} {L M : List Int} (h : Rest a0 b0 a b L) (m : Mid a b mid L) (s : SegP a mid L M) (t : SortedIn a mid M) (ha : a0 ≤ a) (hb : b ≤ b0) (h1 : a ≤ mid) (h2 : mid < b) : Rest a0 b0 (mid + 1) b M := fun p q p1 p2 p3 p4 => by
  by_cases c : p < a ∨ b ≤ q
  · exact (h.seg (s.wide (Nat.le_refl _) (by omega)) ha hb) p q p1 p2 p3 c
  · rcases Nat.lt_or_ge q mid with c1 | c1
    · exact t p q (by omega) p2 c1
    · have em : L.getD mid 0 ≤ M.getD q 0 := by
        rw [s.out q (by omega)]
        rcases Nat.lt_or_ge mid q with c2 | c2
        · exact m.hi q c2 (by omega)
        · rw [show q = mid by omega]; exact Int.le_refl _
      refine Int.le_trans ?_ em
      rcases Nat.lt_or_ge p mid with c2 | c2
      · obtain ⟨z, z1, z2, z3⟩ := s.mem p (by omega) c2
        rw [z3]
        exact Int.le_of_lt (m.lo z z1 z2)
      · rw [show p = mid by omega, s.out mid (by omega)]; exact Int.le_refl _
theorem Rest.right {a0 b0 a b mid : Nat} {L M : List Int} (h : Rest a0 b0 a b L) (m : Mid a b mid L) (s : SegP (mid + 1) b L M) (t : SortedIn (mid + 1) b M) (ha : a0 ≤ a) (hb : b ≤ b0) (h1 : a ≤ mid) (h2 : mid < b) : Rest a0 b0 a mid M := fun p q p1 p2 p3 p4 => by
  by_cases c : p < a ∨ b ≤ q
  · exact (h.seg (s.wide (by omega) (Nat.le_refl _)) ha hb) p q p1 p2 p3 c
  · rcases Nat.lt_or_ge mid p with c1 | c1
    · exact t p q (by omega) p2 (by omega)
    · have em : M.getD p 0 ≤ L.getD mid 0 := by
        rw [s.out p (by omega)]
        rcases Nat.lt_or_ge p mid with c2 | c2
        · exact Int.le_of_lt (m.lo p (by omega) c2)
        · rw [show p = mid by omega]; exact Int.le_refl _
      refine Int.le_trans em ?_
      rcases Nat.lt_or_ge mid q with c2 | c2
      · obtain ⟨z, z1, z2, z3⟩ := s.mem q (by omega) (by omega)
        rw [z3]
        exact m.hi z (by omega) z2
      · rw [show q = mid by omega, s.out mid (by omega)]; exact Int.le_refl _
theorem lowA_of {a0 b0 a b : Nat} {l L : List Int} (h0 : LowA a0 b0 l) (s : SegP a0 b0 l L) (d : Dis l) (r : Rest a0 b0 a b L) (ha : a0 ≤ a) (hb : b ≤ b0) (hl : b0 ≤ l.length) : LowA a b L := fun a1 e z z1 z2 => by
  rcases Nat.lt_or_ge a0 a with c | c
  · have h1 := r a1 z (by omega) (by omega) (by omega) (by omega)
    have h2 := (s.dis d).ne (i := a1) (j := z) (by rw [s.len]; omega) (by rw [s.len]; omega) (by omega)
    omega
  · exact (h0.seg s) a1 (by omega) z (by omega) (by omega)
theorem lowA_right {a b mid : Nat} {L : List Int} (m : Mid a b mid L) (d : Dis L) (hb : b ≤ L.length) (h2 : mid < b) : LowA (mid + 1) b L := fun a1 e z z1 z2 => by
  have e1 : a1 = mid := by omega
  subst e1
  have h1 := m.hi z (by omega) z2
  have h3 := d.ne (i := a1) (j := z) (by omega) (by omega) (by omega)
  omega
theorem lowA_left {a b mid : Nat} {L : List Int} (h : LowA a b L) (h2 : mid < b) : LowA a mid L := fun a1 e z z1 z2 => h a1 e z z1 (by omega)
end Go.Proofs.YtfnjcpopadpmbaaDoor
namespace Go.Proofs.YtfnjcpopadpmbaaDoor
open Go.RowKit BigFrame
set_option maxRecDepth 100000
def headIs (k : Nat) : Code → Bool
  | .region i _ _ => i == k
  | .seq a _ => headIs k a
  | _ => false
/-- The code from region k on. -/
def tailOf (k : Nat) : Code → Option Code
  | .seq a b => if headIs k a then some (.seq a b) else match tailOf k a with | some c => some c | none => tailOf k b
  | .block _ c => tailOf k c
  | .loop c => tailOf k c
  | _ => none
def tailIn (k : Nat) (f : Func) : Code := match f.body with | some c => (match tailOf k c with | some d => d | none => .skip) | none => .skip
def pdF (v0 v1 v2 v3 v8 v9 v10 v11 v12 : Value) (u : Nat → Value) : Act := { tmps := #[v0, v1, v2, v3, u 4, u 5, u 6, u 7, v8, v9, v10, v11, v12, u 13, u 14, u 15, u 16, u 17, u 18, u 19, u 20, u 21, u 22, u 23, u 24, u 25, u 26, u 27, u 28, u 29, u 30, u 31, u 32, u 33, u 34, u 35, u 36, u 37, u 38, u 39, u 40, u 41, u 42, u 43, u 44, u 45, u 46, u 47, u 48, u 49, u 50, u 51, u 52, u 53, u 54, u 55, u 56, u 57, u 58, u 59, u 60, u 61, u 62, u 63, u 64, u 65, u 66, u 67, u 68, u 69, u 70, u 71, u 72, u 73, u 74, u 75, u 76, u 77, u 78, u 79, u 80, u 81, u 82, u 83, u 84, u 85, u 86, u 87, u 88, u 89, u 90, u 91, u 92, u 93, u 94, u 95, u 96, u 97, u 98, u 99, u 100, u 101, u 102, u 103, u 104, u 105, u 106, u 107, u 108, u 109, u 110, u 111, u 112, u 113, u 114, u 115, u 116, u 117, u 118, u 119, u 120, u 121, u 122, u 123, u 124, u 125, u 126, u 127, u 128, u 129, u 130, u 131, u 132, u 133], defers := [] }
def PqA (base g n cap a0 b0 : Nat) (l : List Int) (w w' : World) : Prop := ∃ L, OwU base (.slice (some ⟨g, 0, none⟩) n cap) L w' ∧ SegP a0 b0 l L ∧ SortedIn a0 b0 L ∧ Apart g w w'
def PqI (base g n cap a0 b0 : Nat) (l : List Int) (w : World) (a b : Nat) (w' : World) : Prop := ∃ L, OwU base (.slice (some ⟨g, 0, none⟩) n cap) L w' ∧ SegP a0 b0 l L ∧ Rest a0 b0 a b L ∧ Apart g w w'
/-- What is known of smaller parts. -/
def PqIH (base g n cap lim a b : Nat) : Prop := ∀ (a1 b1 lim1 : Nat) (L : List Int) (W : World), a ≤ a1 → b1 ≤ b → a1 ≤ b1 → b1 - a1 < b - a → lim1 ≤ lim → OwU base (.slice (some ⟨g, 0, none⟩) n cap) L W → L.length = n → Dis L → LowA a1 b1 L →
  Calls Tryd.prog 37 #[.slice (some ⟨g, 0, none⟩) n cap, .int .i64 (a1 : Int), .int .i64 (b1 : Int), .int .i64 (lim1 : Int)] W fun e w' => e = .returned (.tuple #[]) ∧ PqA base g n cap a1 b1 L W w'
noncomputable def pdT20 : Code := tailIn 20 Tryd.f37
noncomputable def pdT17 : Code := tailIn 17 Tryd.f37
set_option maxHeartbeats 32000000 in
theorem pdT20_any {Q : Exit → Act → World → Prop} {A : Act} (base g n cap a0 b0 a b lim d pv : Nat) (v8 v9 v12 : Value) (l L : List Int) (w W : World) (hab0 : a0 ≤ a) (hbb0 : b ≤ b0) (hbn : b0 ≤ n) (hn : n ≤ 1000000) (hl0 : l.length = n) (hd0 : Dis l) (hO0 : OwU base (.slice (some ⟨g, 0, none⟩) n cap) L W) (hS0 : SegP a0 b0 l L) (hR0 : Rest a0 b0 a b L) (hA0 : Apart g w W) (hLow0 : LowA a0 b0 l) (hdd : a + d = b) (hd12 : 12 < d) (hpa : a ≤ pv) (hpb : pv < b) (hI0 : PqIH base g n cap lim a b)
    (hF : A = pdF (.slice (some ⟨g, 0, none⟩) n cap) (.int .i64 (a : Int)) (.int .i64 (b : Int)) (.int .i64 (lim : Int)) v8 v9 (.int .i64 (d : Int)) (.int .i64 (pv : Int)) v12 (fun k => A.tmps.getD k undef))
    (hQ : ∀ A w' (a' b' : Nat) (p8 p9 : Bool) (lim' : Nat), A = pdF (.slice (some ⟨g, 0, none⟩) n cap) (.int .i64 (a' : Int)) (.int .i64 (b' : Int)) (.int .i64 (lim' : Int)) (A.tmps.getD 8 undef) (A.tmps.getD 9 undef) (A.tmps.getD 10 undef) (A.tmps.getD 11 undef) (A.tmps.getD 12 undef) (fun k => A.tmps.getD k undef) → A.tmps.getD 8 undef = .bool p8 → A.tmps.getD 9 undef = .bool p9 → a ≤ a' → b' ≤ b → a' ≤ b' → b' - a' < b - a → lim' ≤ lim → PqI base g n cap a0 b0 l w a' b' w' → Q .normal A w') : pdT20.wp Tryd.prog Q A W := by
  rw [hF]
  generalize (fun k => A.tmps.getD k undef) = u
  clear hF A
  unfold pdF
  have hl := Lib.hid hl0
  have hd := Lib.hid hd0
  have hO := Lib.hid hO0
  have hS := Lib.hid hS0
  have hR := Lib.hid hR0
  have hA := Lib.hid hA0
  have hLow := Lib.hid hLow0
  have gI := Lib.hid hI0
  have gQ := Lib.hid hQ
  have hLl := Lib.hid (hS0.len.trans hl0)
  have hLa := Lib.hid (lowA_of hLow0 hS0 hd0 hR0 hab0 hbb0 (by omega))
  clear hl0 hd0 hO0 hS0 hR0 hA0 hLow0 hI0 hQ
  have f5 : d ≤ 1000000 := by omega
  have f6 : a ≤ 1000000 := by omega
  have f7 : b ≤ 1000000 := by omega
  have c1 := Lib.hid (part_any base g n cap a b pv L W hO.out hLl.out (by omega) (by omega) hn hpa hpb)
  simp only [pdT20, tailIn, tailOf, headIs, Tryd.f37, reduceIte, Nat.reduceEqDiff, Nat.reduceBEq, Bool.false_eq_true]
  go_wp2_with (first
    | ((with_reducible refine c1.out.mono ?_)
       rintro e W1 ⟨mid, bo, L2, rfl, o1, s1, m1, m2, m3, m4, x1⟩
       obtain ⟨mr, hmr⟩ : ∃ mr, mr = mid + 1 := ⟨_, rfl⟩
       have wmr : IntKind.i64.wrap ((mid : Int) + 1) = (mr : Int) := by rw [IntKind.wrap_i64]; omega
       have gO1 := Lib.hid o1
       have gM := Lib.hid (Mid.mk m3 m4 : Mid a b mid L2)
       have gs1 := Lib.hid s1
       have gS1 := Lib.hid (hS.out.trans (s1.wide hab0 hbb0))
       have gR1 := Lib.hid (hR.out.seg s1 hab0 hbb0)
       have gA1 := Lib.hid (hA.out.trans x1)
       have gL1 := Lib.hid (s1.len.trans hLl.out)
       have gD1 := Lib.hid ((hS.out.trans (s1.wide hab0 hbb0)).dis hd.out)
       have gmr := Lib.hid hmr
       have cl := Lib.hid (gI.out a mid lim L2 W1 (Nat.le_refl _) (by omega) m1 (by omega) (Nat.le_refl _) o1 gL1.out gD1.out (lowA_left (hLa.out.seg s1) m2))
       have cr := Lib.hid (gI.out mr b lim L2 W1 (by omega) (Nat.le_refl _) (by omega) (by omega) (Nat.le_refl _) o1 gL1.out gD1.out (hmr ▸ lowA_right gM.out gD1.out (by rw [gL1.out]; omega) m2))
       clear o1 s1 m3 m4 x1 hmr)
    | ((with_reducible refine cl.out.mono ?_)
       rintro e W2 ⟨rfl, L3, o1, s1, t1, x1⟩
       have gO2 := Lib.hid o1
       have gS2 := Lib.hid (gS1.out.trans (s1.wide hab0 (by omega)))
       have gR2 := Lib.hid (gR1.out.left gM.out s1 t1 hab0 hbb0 m1 m2)
       have gA2 := Lib.hid (gA1.out.trans x1)
       clear o1 s1 t1 x1)
    | ((with_reducible refine cr.out.mono ?_)
       rintro e W2 ⟨rfl, L3, o1, s1, t1, x1⟩
       have gO2 := Lib.hid o1
       have gS2 := Lib.hid (gS1.out.trans (s1.wide (by have := gmr.out; omega) hbb0))
       have gR2 := Lib.hid (gR1.out.right gM.out (gmr.out ▸ s1) (gmr.out ▸ t1) hab0 hbb0 m1 m2)
       have gA2 := Lib.hid (gA1.out.trans x1)
       clear o1 s1 t1 x1))
  · exact gQ.out _ _ mr b _ _ lim (by kernel_rfl) rfl rfl (by have := gmr.out; omega) (Nat.le_refl _) (by have := gmr.out; omega) (by have := gmr.out; omega) (Nat.le_refl _) ⟨L3, gO2.out, gS2.out, gmr.out ▸ gR2.out, gA2.out⟩
  · exact gQ.out _ _ a mid _ _ lim (by kernel_rfl) rfl rfl (Nat.le_refl _) (by omega) m1 (by omega) (Nat.le_refl _) ⟨L3, gO2.out, gS2.out, gR2.out, gA2.out⟩
set_option maxHeartbeats 32000000 in
theorem pdT17_any {Q : Exit → Act → World → Prop} {A : Act} (base g n cap a0 b0 a b lim d pv : Nat) (v8 v9 v12 : Value) (l L : List Int) (w W : World) (hab0 : a0 ≤ a) (hbb0 : b ≤ b0) (hbn : b0 ≤ n) (hn : n ≤ 1000000) (hl0 : l.length = n) (hd0 : Dis l) (hO0 : OwU base (.slice (some ⟨g, 0, none⟩) n cap) L W) (hS0 : SegP a0 b0 l L) (hR0 : Rest a0 b0 a b L) (hA0 : Apart g w W) (hLow0 : LowA a0 b0 l) (hdd : a + d = b) (hd12 : 12 < d) (hpa : a ≤ pv) (hpb : pv < b) (hI0 : PqIH base g n cap lim a b)
    (hF : A = pdF (.slice (some ⟨g, 0, none⟩) n cap) (.int .i64 (a : Int)) (.int .i64 (b : Int)) (.int .i64 (lim : Int)) v8 v9 (.int .i64 (d : Int)) (.int .i64 (pv : Int)) v12 (fun k => A.tmps.getD k undef))
    (hQ : ∀ A w' (a' b' : Nat) (p8 p9 : Bool) (lim' : Nat), A = pdF (.slice (some ⟨g, 0, none⟩) n cap) (.int .i64 (a' : Int)) (.int .i64 (b' : Int)) (.int .i64 (lim' : Int)) (A.tmps.getD 8 undef) (A.tmps.getD 9 undef) (A.tmps.getD 10 undef) (A.tmps.getD 11 undef) (A.tmps.getD 12 undef) (fun k => A.tmps.getD k undef) → A.tmps.getD 8 undef = .bool p8 → A.tmps.getD 9 undef = .bool p9 → a ≤ a' → b' ≤ b → a' ≤ b' → b' - a' < b - a → lim' ≤ lim → PqI base g n cap a0 b0 l w a' b' w' → Q .normal A w') : pdT17.wp Tryd.prog Q A W := by
  rw [hF]
  generalize (fun k => A.tmps.getD k undef) = u
  clear hF A
  unfold pdF
  have hl := Lib.hid hl0
  have hd := Lib.hid hd0
  have hO := Lib.hid hO0
  have hS := Lib.hid hS0
  have hR := Lib.hid hR0
  have hA := Lib.hid hA0
  have hLow := Lib.hid hLow0
  have gI := Lib.hid hI0
  have gQ := Lib.hid hQ
  have hLl := Lib.hid (hS0.len.trans hl0)
  have hLa := Lib.hid (lowA_of hLow0 hS0 hd0 hR0 hab0 hbb0 (by omega))
  clear hl0 hd0 hO0 hS0 hR0 hA0 hLow0 hI0 hQ
  have hTail : ∀ (A : Act) (W1 : World), OwU base (.slice (some ⟨g, 0, none⟩) n cap) L W1 → Apart g w W1 → A = pdF (.slice (some ⟨g, 0, none⟩) n cap) (.int .i64 (a : Int)) (.int .i64 (b : Int)) (.int .i64 (lim : Int)) v8 v9 (.int .i64 (d : Int)) (.int .i64 (pv : Int)) v12 (fun k => A.tmps.getD k undef) → pdT20.wp Tryd.prog Q A W1 := fun A W1 o1 x1 e => pdT20_any base g n cap a0 b0 a b lim d pv v8 v9 v12 l L w W1 hab0 hbb0 hbn hn hl.out hd.out o1 hS.out hR.out x1 hLow.out hdd hd12 hpa hpb gI.out e gQ.out
  have gT := Lib.hid hTail
  clear hTail
  simp only [pdT17, tailIn, tailOf, headIs, Tryd.f37, reduceIte, Nat.reduceEqDiff, Nat.reduceBEq, Bool.false_eq_true]
  refine wp_seq_k fun K hK => ?_
  have gK := Lib.hid hK
  clear hK
  by_cases ha0 : a = 0
  · have lc : decide ((a : Int) > 0) = false := by simp; omega
    go_wp2
    refine wp_nopan ?_
    refine wp_region_held (S := fun _ => True) (by kernel_rfl) ?_
    have hS9 : True := trivial
    refine takeL (i := 0) (v := (.int .i64 (a : Int))) rfl (by kernel_rfl) (by kernel_rfl) (by kernel_rfl) (fun _ _ _ h => h) rfl (by assumption) (fun w' hS' => by go_simp) ?_
    simp only [Act.put, List.setIfInBounds_toArray, List.set_cons_zero, List.set_cons_succ]
    refine takeL (i := 1) (v := (.bool false)) rfl (by kernel_rfl) (by kernel_rfl) (by kernel_rfl) (fun _ _ _ h => h) rfl (by assumption) (fun w' hS' => by go_simp) ?_
    simp only [Act.put, List.setIfInBounds_toArray, List.set_cons_zero, List.set_cons_succ]
    refine takeL (i := 2) (v := (.bool false)) rfl (by kernel_rfl) (by kernel_rfl) (by kernel_rfl) (fun _ _ _ h => h) rfl (by assumption) (fun w' hS' => by go_simp) ?_
    simp only [Act.put, List.setIfInBounds_toArray, List.set_cons_zero, List.set_cons_succ]
    refine skipL (i := 3) rfl (by kernel_rfl) (by kernel_rfl) (by kernel_rfl) (fun _ _ _ h => h) rfl (by assumption) ?_
    simp only [Act.put, List.setIfInBounds_toArray, List.set_cons_zero, List.set_cons_succ]
    refine skipL (i := 4) rfl (by kernel_rfl) (by kernel_rfl) (by kernel_rfl) (fun _ _ _ h => h) rfl (by assumption) ?_
    simp only [Act.put, List.setIfInBounds_toArray, List.set_cons_zero, List.set_cons_succ]
    refine skipL (i := 5) rfl (by kernel_rfl) (by kernel_rfl) (by kernel_rfl) (fun _ _ _ h => h) rfl (by assumption) ?_
    simp only [Act.put, List.setIfInBounds_toArray, List.set_cons_zero, List.set_cons_succ]
    refine skipL (i := 6) rfl (by kernel_rfl) (by kernel_rfl) (by kernel_rfl) (fun _ _ _ h => h) rfl (by assumption) ?_
    simp only [Act.put, List.setIfInBounds_toArray, List.set_cons_zero, List.set_cons_succ]
    refine skipL (i := 7) rfl (by kernel_rfl) (by kernel_rfl) (by kernel_rfl) (fun _ _ _ h => h) rfl (by assumption) ?_
    simp only [Act.put, List.setIfInBounds_toArray, List.set_cons_zero, List.set_cons_succ]
    refine skipL (i := 8) rfl (by kernel_rfl) (by kernel_rfl) (by kernel_rfl) (fun _ _ _ h => h) rfl (by assumption) ?_
    simp only [Act.put, List.setIfInBounds_toArray, List.set_cons_zero, List.set_cons_succ]
    refine skipL (i := 9) rfl (by kernel_rfl) (by kernel_rfl) (by kernel_rfl) (fun _ _ _ h => h) rfl (by assumption) ?_
    simp only [Act.put, List.setIfInBounds_toArray, List.set_cons_zero, List.set_cons_succ]
    refine skipL (i := 10) rfl (by kernel_rfl) (by kernel_rfl) (by kernel_rfl) (fun _ _ _ h => h) rfl (by assumption) ?_
    simp only [Act.put, List.setIfInBounds_toArray, List.set_cons_zero, List.set_cons_succ]
    refine skipL (i := 11) rfl (by kernel_rfl) (by kernel_rfl) (by kernel_rfl) (fun _ _ _ h => h) rfl (by assumption) ?_
    simp only [Act.put, List.setIfInBounds_toArray, List.set_cons_zero, List.set_cons_succ]
    refine skipL (i := 12) rfl (by kernel_rfl) (by kernel_rfl) (by kernel_rfl) (fun _ _ _ h => h) rfl (by assumption) ?_
    simp only [Act.put, List.setIfInBounds_toArray, List.set_cons_zero, List.set_cons_succ]
    refine skipL (i := 13) rfl (by kernel_rfl) (by kernel_rfl) (by kernel_rfl) (fun _ _ _ h => h) rfl (by assumption) ?_
    simp only [Act.put, List.setIfInBounds_toArray, List.set_cons_zero, List.set_cons_succ]
    refine takeL (i := 14) (v := (.bool false)) rfl (by kernel_rfl) (by kernel_rfl) (by kernel_rfl) (fun _ _ _ h => h) rfl (by assumption) (fun w' hS' => by go_simp) ?_
    simp only [Act.put, List.setIfInBounds_toArray, List.set_cons_zero, List.set_cons_succ]
    refine wpAnyH_done (by kernel_rfl) ?_ _
    simp only [NoPan]
    refine gen_q (fun W2 => OwU base (.slice (some ⟨g, 0, none⟩) n cap) L W2 ∧ Apart g w W2) ⟨hO.out.later ((Below.refl _ _).drew), hA.out.trans (Apart.begin g W)⟩ ?_
    rintro WT ⟨o2, a2⟩
    have g3 := Lib.hid o2
    have g4 := Lib.hid a2
    clear o2 a2 hS9
    go_wp2
    exact gK.out _ _ (gT.out _ _ g3.out g4.out (by kernel_rfl))
  · have lc : decide ((a : Int) > 0) = true := by simp; omega
    have hpos : 0 < a := by omega
    obtain ⟨a1, ha1⟩ : ∃ a1, a1 + 1 = a := ⟨a - 1, by omega⟩
    have wa : IntKind.i64.wrap ((a : Int) - 1) = (a1 : Int) := by rw [IntKind.wrap_i64]; omega
    have ha1n : a1 < n := by omega
    have hpn : pv < n := by omega
    have hlt := Lib.hid (hLa.out a1 ha1 pv hpa hpb)
    clear ha1
    go_wp2
    have cx := hO.out.cell a1 (by rw [hLl.out]; exact ha1n)
    have cy := hO.out.cell pv (by rw [hLl.out]; exact hpn)
    obtain ⟨vx, hvx⟩ : ∃ v, v = L.getD a1 0 := ⟨_, rfl⟩
    obtain ⟨vy, hvy⟩ : ∃ v, v = L.getD pv 0 := ⟨_, rfl⟩
    rw [← hvx] at cx
    rw [← hvy] at cy
    have gvx := Lib.hid hvx
    have gvy := Lib.hid hvy
    have gcx := Lib.hid cx
    have gcy := Lib.hid cy
    clear cx cy hvx hvy
    refine wp_nopan ?_
    refine wp_region_held (S := fun w' => w'.cell? ⟨g, a1, none⟩ = some (.int .u64 vx) ∧ w'.cell? ⟨g, pv, none⟩ = some (.int .u64 vy)) (by kernel_rfl) ?_
    have hS : ({ W with drawn := W.drawn + 1 } : World).cell? ⟨g, a1, none⟩ = some (.int .u64 vx) ∧ ({ W with drawn := W.drawn + 1 } : World).cell? ⟨g, pv, none⟩ = some (.int .u64 vy) := ⟨gcx.out, gcy.out⟩
    refine takeL (i := 0) (v := (.int .i64 (a : Int))) rfl (by kernel_rfl) (by kernel_rfl) (by kernel_rfl) (fun _ _ _ h => h) rfl (by assumption) (fun w' hS' => by go_simp) ?_
    simp only [Act.put, List.setIfInBounds_toArray, List.set_cons_zero, List.set_cons_succ]
    refine takeL (i := 1) (v := (.bool true)) rfl (by kernel_rfl) (by kernel_rfl) (by kernel_rfl) (fun _ _ _ h => h) rfl (by assumption) (fun w' hS' => by go_simp) ?_
    simp only [Act.put, List.setIfInBounds_toArray, List.set_cons_zero, List.set_cons_succ]
    refine takeL (i := 2) (v := (.bool true)) rfl (by kernel_rfl) (by kernel_rfl) (by kernel_rfl) (fun _ _ _ h => h) rfl (by assumption) (fun w' hS' => by go_simp) ?_
    simp only [Act.put, List.setIfInBounds_toArray, List.set_cons_zero, List.set_cons_succ]
    refine takeL (i := 3) (v := (.slice (some ⟨g, 0, none⟩) n cap)) rfl (by kernel_rfl) (by kernel_rfl) (by kernel_rfl) (fun _ _ _ h => h) rfl (by assumption) (fun w' hS' => by go_simp) ?_
    simp only [Act.put, List.setIfInBounds_toArray, List.set_cons_zero, List.set_cons_succ]
    refine takeL (i := 4) (v := (.int .i64 (a : Int))) rfl (by kernel_rfl) (by kernel_rfl) (by kernel_rfl) (fun _ _ _ h => h) rfl (by assumption) (fun w' hS' => by go_simp) ?_
    simp only [Act.put, List.setIfInBounds_toArray, List.set_cons_zero, List.set_cons_succ]
    refine takeL (i := 5) (v := (.int .i64 (a1 : Int))) rfl (by kernel_rfl) (by kernel_rfl) (by kernel_rfl) (fun _ _ _ h => h) rfl (by assumption) (fun w' hS' => by go_simp) ?_
    simp only [Act.put, List.setIfInBounds_toArray, List.set_cons_zero, List.set_cons_succ]
    refine takeL (i := 6) (v := (.pointer (some ⟨g, a1, none⟩))) rfl (by kernel_rfl) (by kernel_rfl) (by kernel_rfl) (fun _ _ _ h => h) rfl (by assumption) (fun w' hS' => run_index_slice _ 37 22 (.tmp 76) (.tmp 78) rfl Tryd.underlying37 1 sz_u64 g 0 n cap rfl .i64 a1 rfl ha1n a1 (by omega)) ?_
    simp only [Act.put, List.setIfInBounds_toArray, List.set_cons_zero, List.set_cons_succ]
    refine takeL (i := 7) (v := (.int .u64 vx)) rfl (by kernel_rfl) (by kernel_rfl) (by kernel_rfl) (fun _ _ _ h => h) rfl (by assumption) (fun w' hS' => run_load_cell _ 22 (.tmp 79) rfl ⟨g, a1, none⟩ rfl _ hS'.1 _ Tryd.underlying22 rfl) ?_
    simp only [Act.put, List.setIfInBounds_toArray, List.set_cons_zero, List.set_cons_succ]
    refine takeL (i := 8) (v := (.slice (some ⟨g, 0, none⟩) n cap)) rfl (by kernel_rfl) (by kernel_rfl) (by kernel_rfl) (fun _ _ _ h => h) rfl (by assumption) (fun w' hS' => by go_simp) ?_
    simp only [Act.put, List.setIfInBounds_toArray, List.set_cons_zero, List.set_cons_succ]
    refine takeL (i := 9) (v := (.int .i64 (pv : Int))) rfl (by kernel_rfl) (by kernel_rfl) (by kernel_rfl) (fun _ _ _ h => h) rfl (by assumption) (fun w' hS' => by go_simp) ?_
    simp only [Act.put, List.setIfInBounds_toArray, List.set_cons_zero, List.set_cons_succ]
    refine takeL (i := 10) (v := (.pointer (some ⟨g, pv, none⟩))) rfl (by kernel_rfl) (by kernel_rfl) (by kernel_rfl) (fun _ _ _ h => h) rfl (by assumption) (fun w' hS' => run_index_slice _ 37 22 (.tmp 81) (.tmp 82) rfl Tryd.underlying37 1 sz_u64 g 0 n cap rfl .i64 pv rfl hpn pv (by omega)) ?_
    simp only [Act.put, List.setIfInBounds_toArray, List.set_cons_zero, List.set_cons_succ]
    refine takeL (i := 11) (v := (.int .u64 vy)) rfl (by kernel_rfl) (by kernel_rfl) (by kernel_rfl) (fun _ _ _ h => h) rfl (by assumption) (fun w' hS' => run_load_cell _ 22 (.tmp 83) rfl ⟨g, pv, none⟩ rfl _ hS'.2 _ Tryd.underlying22 rfl) ?_
    simp only [Act.put, List.setIfInBounds_toArray, List.set_cons_zero, List.set_cons_succ]
    refine oneL (i := 12) rfl (by kernel_rfl) rfl (wp_call 53 #[.int .u64 vx, .int .u64 vy] (by go_simp) _ _ (less_any vx vy _) ?_)
    rintro W2 rfl
    refine ⟨hS, ?_⟩
    simp only [Act.put, List.setIfInBounds_toArray, List.set_cons_zero, List.set_cons_succ]
    obtain ⟨bb, hbb⟩ : ∃ b, b = decide (vx < vy) := ⟨_, rfl⟩
    rw [← hbb]
    have gbb := Lib.hid hbb
    clear hbb
    refine takeL (i := 13) (v := (.bool (!bb))) rfl (by kernel_rfl) (by kernel_rfl) (by kernel_rfl) (fun _ _ _ h => h) rfl (by assumption) (fun w' hS' => by go_simp) ?_
    simp only [Act.put, List.setIfInBounds_toArray, List.set_cons_zero, List.set_cons_succ]
    refine takeL (i := 14) (v := (.bool (!bb))) rfl (by kernel_rfl) (by kernel_rfl) (by kernel_rfl) (fun _ _ _ h => h) rfl (by assumption) (fun w' hS' => by go_simp) ?_
    simp only [Act.put, List.setIfInBounds_toArray, List.set_cons_zero, List.set_cons_succ]
    refine wpAnyH_done (by kernel_rfl) ?_ _
    simp only [NoPan]
    clear hS
    refine gen_q (fun W2 => OwU base (.slice (some ⟨g, 0, none⟩) n cap) L W2 ∧ Apart g w W2) ⟨hO.out.later ((Below.refl _ _).drew), hA.out.trans (Apart.begin g W)⟩ ?_
    rintro WT ⟨o2, a2⟩
    have gT9 := Lib.hid o2
    have gAT9 := Lib.hid a2
    clear o2 a2
    have hbt : bb = true := by
      have h1 := hlt.out
      rw [← gvx.out, ← gvy.out] at h1
      rw [gbb.out]
      simpa using h1
    subst hbt
    go_wp2
    exact gK.out _ _ (gT.out _ _ gT9.out gAT9.out (by kernel_rfl))
end Go.Proofs.YtfnjcpopadpmbaaDoor
namespace Go.Proofs.YtfnjcpopadpmbaaDoor
open Go.RowKit BigFrame
set_option maxRecDepth 100000
noncomputable def pdT15 : Code := tailIn 15 Tryd.f37
noncomputable def pdT10 : Code := tailIn 10 Tryd.f37
set_option maxHeartbeats 32000000 in
theorem pdT15_any {Q : Exit → Act → World → Prop} {A : Act} (base g n cap a0 b0 a b lim d pv : Nat) (p8 p9 : Bool) (h : Int) (l L : List Int) (w W : World) (hab0 : a0 ≤ a) (hbb0 : b ≤ b0) (hbn : b0 ≤ n) (hn : n ≤ 1000000) (hl0 : l.length = n) (hd0 : Dis l) (hO0 : OwU base (.slice (some ⟨g, 0, none⟩) n cap) L W) (hS0 : SegP a0 b0 l L) (hR0 : Rest a0 b0 a b L) (hA0 : Apart g w W) (hLow0 : LowA a0 b0 l) (hdd : a + d = b) (hd12 : 12 < d) (hpa : a ≤ pv) (hpb : pv < b) (hI0 : PqIH base g n cap lim a b)
    (hF : A = pdF (.slice (some ⟨g, 0, none⟩) n cap) (.int .i64 (a : Int)) (.int .i64 (b : Int)) (.int .i64 (lim : Int)) (.bool p8) (.bool p9) (.int .i64 (d : Int)) (.int .i64 (pv : Int)) (.int .i64 h) (fun k => A.tmps.getD k undef))
    (hQ : ∀ A w' (a' b' : Nat) (p8 p9 : Bool) (lim' : Nat), A = pdF (.slice (some ⟨g, 0, none⟩) n cap) (.int .i64 (a' : Int)) (.int .i64 (b' : Int)) (.int .i64 (lim' : Int)) (A.tmps.getD 8 undef) (A.tmps.getD 9 undef) (A.tmps.getD 10 undef) (A.tmps.getD 11 undef) (A.tmps.getD 12 undef) (fun k => A.tmps.getD k undef) → A.tmps.getD 8 undef = .bool p8 → A.tmps.getD 9 undef = .bool p9 → a ≤ a' → b' ≤ b → a' ≤ b' → b' - a' < b - a → lim' ≤ lim → PqI base g n cap a0 b0 l w a' b' w' → Q .normal A w') (hQR : ∀ A w', A.defers = [] → PqA base g n cap a0 b0 l w w' → Q .ret A w') : pdT15.wp Tryd.prog Q A W := by
  rw [hF]
  generalize (fun k => A.tmps.getD k undef) = u
  clear hF A
  unfold pdF
  have hl := Lib.hid hl0
  have hd := Lib.hid hd0
  have hO := Lib.hid hO0
  have hS := Lib.hid hS0
  have hR := Lib.hid hR0
  have hA := Lib.hid hA0
  have hLow := Lib.hid hLow0
  have gI := Lib.hid hI0
  have gQ := Lib.hid hQ
  have hLl := Lib.hid (hS0.len.trans hl0)
  have hLa := Lib.hid (lowA_of hLow0 hS0 hd0 hR0 hab0 hbb0 (by omega))
  have gQR := Lib.hid hQR
  clear hQR hl0 hd0 hO0 hS0 hR0 hA0 hLow0 hI0 hQ
  have hTail : ∀ (A : Act) (L1 : List Int) (W1 : World), OwU base (.slice (some ⟨g, 0, none⟩) n cap) L1 W1 → SegP a b L L1 → Apart g w W1 → A = pdF (.slice (some ⟨g, 0, none⟩) n cap) (.int .i64 (a : Int)) (.int .i64 (b : Int)) (.int .i64 (lim : Int)) (.bool p8) (.bool p9) (.int .i64 (d : Int)) (.int .i64 (pv : Int)) (.int .i64 h) (fun k => A.tmps.getD k undef) → pdT17.wp Tryd.prog Q A W1 := fun A L1 W1 o1 s1 x1 e => pdT17_any base g n cap a0 b0 a b lim d pv _ _ _ l L1 w W1 hab0 hbb0 hbn hn hl.out hd.out o1 (hS.out.trans (s1.wide hab0 hbb0)) (hR.out.seg s1 hab0 hbb0) x1 hLow.out hdd hd12 hpa hpb gI.out e gQ.out
  have gT := Lib.hid hTail
  clear hTail
  have c1 := Lib.hid (partial_any base g n cap a b L W hO.out hLl.out (by omega) (by omega) hn hLa.out)
  simp only [pdT15, tailIn, tailOf, headIs, Tryd.f37, reduceIte, Nat.reduceEqDiff, Nat.reduceBEq, Bool.false_eq_true]
  refine wp_seq_k fun K hK => ?_
  have gK := Lib.hid hK
  clear hK
  have hout : ∀ A : Act, A = pdF (.slice (some ⟨g, 0, none⟩) n cap) (.int .i64 (a : Int)) (.int .i64 (b : Int)) (.int .i64 (lim : Int)) (.bool p8) (.bool p9) (.int .i64 (d : Int)) (.int .i64 (pv : Int)) (.int .i64 h) (fun k => A.tmps.getD k undef) → K A W := fun A e => gK.out _ _ (gT.out _ _ _ hO.out (SegP.refl _ _ _) hA.out e)
  have gout := Lib.hid hout
  clear hout
  cases p8 with
  | false =>
    go_wp2
    exact gout.out _ (by kernel_rfl)
  | true =>
    cases p9 with
    | false =>
      go_wp2
      exact gout.out _ (by kernel_rfl)
    | true =>
      by_cases h1 : h = 1
      · subst h1
        go_wp2_with (
          ((with_reducible refine c1.out.mono ?_)
           rintro e W1 ⟨r, L1, rfl, o1, s1, t1, x1⟩
           have gO1 := Lib.hid o1
           have gs1 := Lib.hid s1
           have gt1 := Lib.hid t1
           have gA1 := Lib.hid (hA.out.trans x1)
           clear o1 s1 t1 x1))
        · exact gQR.out _ _ rfl ⟨L1, gO1.out, hS.out.trans (gs1.out.wide hab0 hbb0), (hR.out.seg gs1.out hab0 hbb0).done (gt1.out (by assumption)), gA1.out⟩
        · exact gK.out _ _ (gT.out _ _ _ gO1.out gs1.out gA1.out (by kernel_rfl))
      · have lh : (h == 1) = false := by simpa using h1
        go_wp2
        exact gout.out _ (by kernel_rfl)
set_option maxHeartbeats 32000000 in
theorem pdT10_any {Q : Exit → Act → World → Prop} {A : Act} (base g n cap a0 b0 a b lim d : Nat) (p8 p9 : Bool) (v11 v12 : Value) (l L : List Int) (w W : World) (hab0 : a0 ≤ a) (hbb0 : b ≤ b0) (hbn : b0 ≤ n) (hn : n ≤ 1000000) (hl0 : l.length = n) (hd0 : Dis l) (hO0 : OwU base (.slice (some ⟨g, 0, none⟩) n cap) L W) (hS0 : SegP a0 b0 l L) (hR0 : Rest a0 b0 a b L) (hA0 : Apart g w W) (hLow0 : LowA a0 b0 l) (hdd : a + d = b) (hd12 : 12 < d) (hI0 : PqIH base g n cap lim a b)
    (hF : A = pdF (.slice (some ⟨g, 0, none⟩) n cap) (.int .i64 (a : Int)) (.int .i64 (b : Int)) (.int .i64 (lim : Int)) (.bool p8) (.bool p9) (.int .i64 (d : Int)) v11 v12 (fun k => A.tmps.getD k undef))
    (hQ : ∀ A w' (a' b' : Nat) (p8 p9 : Bool) (lim' : Nat), A = pdF (.slice (some ⟨g, 0, none⟩) n cap) (.int .i64 (a' : Int)) (.int .i64 (b' : Int)) (.int .i64 (lim' : Int)) (A.tmps.getD 8 undef) (A.tmps.getD 9 undef) (A.tmps.getD 10 undef) (A.tmps.getD 11 undef) (A.tmps.getD 12 undef) (fun k => A.tmps.getD k undef) → A.tmps.getD 8 undef = .bool p8 → A.tmps.getD 9 undef = .bool p9 → a ≤ a' → b' ≤ b → a' ≤ b' → b' - a' < b - a → lim' ≤ lim → PqI base g n cap a0 b0 l w a' b' w' → Q .normal A w') (hQR : ∀ A w', A.defers = [] → PqA base g n cap a0 b0 l w w' → Q .ret A w') : pdT10.wp Tryd.prog Q A W := by
  rw [hF]
  generalize (fun k => A.tmps.getD k undef) = u
  clear hF A
  unfold pdF
  have hl := Lib.hid hl0
  have hd := Lib.hid hd0
  have hO := Lib.hid hO0
  have hS := Lib.hid hS0
  have hR := Lib.hid hR0
  have hA := Lib.hid hA0
  have hLow := Lib.hid hLow0
  have gI := Lib.hid hI0
  have gQ := Lib.hid hQ
  have hLl := Lib.hid (hS0.len.trans hl0)
  have hLa := Lib.hid (lowA_of hLow0 hS0 hd0 hR0 hab0 hbb0 (by omega))
  have gQR := Lib.hid hQR
  clear hQR hl0 hd0 hO0 hS0 hR0 hA0 hLow0 hI0 hQ
  have hTail : ∀ (A : Act) (pv : Nat) (h : Int) (L1 : List Int) (W1 : World), OwU base (.slice (some ⟨g, 0, none⟩) n cap) L1 W1 → SegP a b L L1 → Apart g w W1 → a ≤ pv → pv < b → A = pdF (.slice (some ⟨g, 0, none⟩) n cap) (.int .i64 (a : Int)) (.int .i64 (b : Int)) (.int .i64 (lim : Int)) (.bool p8) (.bool p9) (.int .i64 (d : Int)) (.int .i64 (pv : Int)) (.int .i64 h) (fun k => A.tmps.getD k undef) → pdT15.wp Tryd.prog Q A W1 := fun A pv h L1 W1 o1 s1 x1 p1 p2 e => pdT15_any base g n cap a0 b0 a b lim d pv _ _ h l L1 w W1 hab0 hbb0 hbn hn hl.out hd.out o1 (hS.out.trans (s1.wide hab0 hbb0)) (hR.out.seg s1 hab0 hbb0) x1 hLow.out hdd hd12 p1 p2 gI.out e gQ.out gQR.out
  have gT := Lib.hid hTail
  clear hTail
  have f5 : d ≤ 1000000 := by omega
  have f6 : a ≤ 1000000 := by omega
  have f7 : b ≤ 1000000 := by omega
  have c1 := Lib.hid (choose_any base g n cap a b L W hO.out hLl.out (by omega) (by omega) hn)
  simp only [pdT10, tailIn, tailOf, headIs, Tryd.f37, reduceIte, Nat.reduceEqDiff, Nat.reduceBEq, Bool.false_eq_true]
  refine wp_seq_k fun K hK => ?_
  have gK := Lib.hid hK
  clear hK
  go_wp2_with (
    ((with_reducible refine c1.out.mono ?_)
     rintro e W1 ⟨pv, h, rfl, p1, x1⟩
     have gO1 := Lib.hid (hO.out.later x1)
     have gA1 := Lib.hid (hA.out.call x1)
     clear x1))
  refine gK.out _ _ ?_
  refine wp_seq_k fun K2 hK2 => ?_
  have gK2 := Lib.hid hK2
  clear hK2
  by_cases h2 : h = 2
  · subst h2
    have c2 := Lib.hid (rev_any base g n cap a b L W1 gO1.out hLl.out (by omega) (by omega) hn)
    obtain ⟨pw, hpw⟩ : ∃ pw : Nat, pw = b - 1 - (pv - a) := ⟨_, rfl⟩
    have f8 : (b : Int) - 1 - ((pv : Int) - (a : Int)) = (pw : Int) := by omega
    have hp1 : a ≤ pw := by omega
    have hp2 : pw < b := by omega
    have hpp : pv ≤ 1000000 := by omega
    clear hpw
    go_wp2_with (
      ((with_reducible refine c2.out.mono ?_)
       rintro e W2 ⟨rfl, L2, o2, s2, x2⟩
       have gO2 := Lib.hid o2
       have gs2 := Lib.hid s2
       have gA2 := Lib.hid (gA1.out.trans x2)
       clear o2 s2 x2))
    exact gK2.out _ _ (gT.out _ pw 1 L2 W2 gO2.out gs2.out gA2.out hp1 hp2 (by kernel_rfl))
  · have lh : (h == 2) = false := by simpa using h2
    go_wp2
    exact gK2.out _ _ (gT.out _ pv h L W1 gO1.out (SegP.refl _ _ _) gA1.out p1.1 p1.2 (by kernel_rfl))
end Go.Proofs.YtfnjcpopadpmbaaDoor
namespace Go.Proofs.YtfnjcpopadpmbaaDoor
open Go.RowKit BigFrame
set_option maxRecDepth 100000
noncomputable def pdT2 : Code := tailIn 2 Tryd.f37
set_option maxHeartbeats 32000000 in
theorem pdT2_any {Q : Exit → Act → World → Prop} {A : Act} (base g n cap a0 b0 a b lim : Nat) (p8 p9 : Bool) (v10 v11 v12 : Value) (l L : List Int) (w W : World) (hab0 : a0 ≤ a) (hbb0 : b ≤ b0) (hbn : b0 ≤ n) (hn : n ≤ 1000000) (hl0 : l.length = n) (hd0 : Dis l) (hO0 : OwU base (.slice (some ⟨g, 0, none⟩) n cap) L W) (hS0 : SegP a0 b0 l L) (hR0 : Rest a0 b0 a b L) (hA0 : Apart g w W) (hLow0 : LowA a0 b0 l) (hab : a ≤ b) (hlim : lim ≤ 100) (hI0 : PqIH base g n cap lim a b)
    (hF : A = pdF (.slice (some ⟨g, 0, none⟩) n cap) (.int .i64 (a : Int)) (.int .i64 (b : Int)) (.int .i64 (lim : Int)) (.bool p8) (.bool p9) v10 v11 v12 (fun k => A.tmps.getD k undef))
    (hQ : ∀ A w' (a' b' : Nat) (p8 p9 : Bool) (lim' : Nat), A = pdF (.slice (some ⟨g, 0, none⟩) n cap) (.int .i64 (a' : Int)) (.int .i64 (b' : Int)) (.int .i64 (lim' : Int)) (A.tmps.getD 8 undef) (A.tmps.getD 9 undef) (A.tmps.getD 10 undef) (A.tmps.getD 11 undef) (A.tmps.getD 12 undef) (fun k => A.tmps.getD k undef) → A.tmps.getD 8 undef = .bool p8 → A.tmps.getD 9 undef = .bool p9 → a ≤ a' → b' ≤ b → a' ≤ b' → b' - a' < b - a → lim' ≤ lim → PqI base g n cap a0 b0 l w a' b' w' → Q .normal A w') (hQR : ∀ A w', A.defers = [] → PqA base g n cap a0 b0 l w w' → Q .ret A w') : pdT2.wp Tryd.prog Q A W := by
  rw [hF]
  generalize (fun k => A.tmps.getD k undef) = u
  clear hF A
  unfold pdF
  have hl := Lib.hid hl0
  have hd := Lib.hid hd0
  have hO := Lib.hid hO0
  have hS := Lib.hid hS0
  have hR := Lib.hid hR0
  have hA := Lib.hid hA0
  have hLow := Lib.hid hLow0
  have gI := Lib.hid hI0
  have gQ := Lib.hid hQ
  have hLl := Lib.hid (hS0.len.trans hl0)
  have hLa := Lib.hid (lowA_of hLow0 hS0 hd0 hR0 hab0 hbb0 (by omega))
  have gQR := Lib.hid hQR
  clear hQR hl0 hd0 hO0 hS0 hR0 hA0 hLow0 hI0 hQ
  obtain ⟨d, hdd⟩ : ∃ d, a + d = b := ⟨b - a, by omega⟩
  have f0 : (b : Int) - (a : Int) = (d : Int) := by omega
  have f5 : d ≤ 1000000 := by omega
  have f6 : a ≤ 1000000 := by omega
  have f7 : b ≤ 1000000 := by omega
  simp only [pdT2, tailIn, tailOf, headIs, Tryd.f37, reduceIte, Nat.reduceEqDiff, Nat.reduceBEq, Bool.false_eq_true]
  refine wp_seq_k fun K hK => ?_
  have gK := Lib.hid hK
  clear hK
  go_wp2
  refine gK.out _ _ ?_
  clear gK
  refine wp_seq_k fun K hK => ?_
  have gK := Lib.hid hK
  clear hK
  by_cases h12 : d ≤ 12
  · have lc : decide ((d : Int) ≤ 12) = true := by simp; omega
    have c1 := Lib.hid (ins_any base g n cap a b L W hO.out hLl.out hab (by omega) hn)
    go_wp2_with (
      ((with_reducible refine c1.out.mono ?_)
       rintro e W1 ⟨rfl, L1, o1, s1, t1, x1⟩
       have gO1 := Lib.hid o1
       have gs1 := Lib.hid s1
       have gt1 := Lib.hid t1
       have gA1 := Lib.hid (hA.out.trans x1)
       clear o1 s1 t1 x1))
    exact gQR.out _ _ rfl ⟨L1, gO1.out, hS.out.trans (gs1.out.wide hab0 hbb0), (hR.out.seg gs1.out hab0 hbb0).done gt1.out, gA1.out⟩
  have lc : decide ((d : Int) ≤ 12) = false := by simp; omega
  go_wp2
  refine gK.out _ _ ?_
  clear gK
  refine wp_seq_k fun K hK => ?_
  have gK := Lib.hid hK
  clear hK
  by_cases hl0 : lim = 0
  · have lc2 : ((lim : Int) == 0) = true := by simp; omega
    have c1 := Lib.hid (heap_any base g n cap a b L W hO.out hLl.out (by omega) (by omega) hn)
    subst hl0
    go_wp2_with (
      ((with_reducible refine c1.out.mono ?_)
       rintro e W1 ⟨rfl, L1, o1, s1, t1, x1⟩
       have gO1 := Lib.hid o1
       have gs1 := Lib.hid s1
       have gt1 := Lib.hid t1
       have gA1 := Lib.hid (hA.out.trans x1)
       clear o1 s1 t1 x1))
    exact gQR.out _ _ rfl ⟨L1, gO1.out, hS.out.trans (gs1.out.wide hab0 hbb0), (hR.out.seg gs1.out hab0 hbb0).done gt1.out, gA1.out⟩
  have lc2 : ((lim : Int) == 0) = false := by simp; omega
  go_wp2
  refine gK.out _ _ ?_
  clear gK
  refine wp_seq_k fun K hK => ?_
  have gK := Lib.hid hK
  clear hK
  cases p8 with
  | true =>
    go_wp2
    exact gK.out _ _ (pdT10_any base g n cap a0 b0 a b lim d true p9 v11 v12 l L w W hab0 hbb0 hbn hn hl.out hd.out hO.out hS.out hR.out hA.out hLow.out hdd (by omega) gI.out (by kernel_rfl) gQ.out gQR.out)
  | false =>
    obtain ⟨lm, hlm⟩ : ∃ lm, lm + 1 = lim := ⟨lim - 1, by omega⟩
    have wl : IntKind.i64.wrap ((lim : Int) - 1) = (lm : Int) := by rw [IntKind.wrap_i64]; omega
    have c1 := Lib.hid (break_any base g n cap a b L W hO.out hLl.out (by omega) (by omega) hn)
    have gI2 := Lib.hid (show PqIH base g n cap lm a b from fun a1 b1 lim1 L W h1 h2 h3 h4 h5 => gI.out a1 b1 lim1 L W h1 h2 h3 h4 (by omega))
    have glm := Lib.hid hlm
    clear hlm
    go_wp2_with (
      ((with_reducible refine c1.out.mono ?_)
       rintro e W1 ⟨rfl, L1, o1, s1, x1⟩
       have gO1 := Lib.hid o1
       have gs1 := Lib.hid s1
       have gA1 := Lib.hid (hA.out.trans x1)
       clear o1 s1 x1))
    exact gK.out _ _ (pdT10_any base g n cap a0 b0 a b lm d false p9 v11 v12 l L1 w W1 hab0 hbb0 hbn hn hl.out hd.out gO1.out (hS.out.trans (gs1.out.wide hab0 hbb0)) (hR.out.seg gs1.out hab0 hbb0) gA1.out hLow.out hdd (by omega) gI2.out (by kernel_rfl) (fun A w' a' b' p8 p9 lim' e1 e2 e3 e4 e5 e6 e7 e8 => gQ.out A w' a' b' p8 p9 lim' e1 e2 e3 e4 e5 e6 e7 (by have := glm.out; omega)) gQR.out)
/-- A loop's stand. -/
def PqL (base g n cap a0 b0 lim0 : Nat) (l : List Int) (w : World) (A : Act) (W : World) : Prop := ∃ (a b lim : Nat) (p8 p9 : Bool), A = pdF (.slice (some ⟨g, 0, none⟩) n cap) (.int .i64 (a : Int)) (.int .i64 (b : Int)) (.int .i64 (lim : Int)) (A.tmps.getD 8 undef) (A.tmps.getD 9 undef) (A.tmps.getD 10 undef) (A.tmps.getD 11 undef) (A.tmps.getD 12 undef) (fun k => A.tmps.getD k undef) ∧ A.tmps.getD 8 undef = .bool p8 ∧ A.tmps.getD 9 undef = .bool p9 ∧ a0 ≤ a ∧ b ≤ b0 ∧ a ≤ b ∧ lim ≤ lim0 ∧ PqI base g n cap a0 b0 l w a b W
def PqM (A : Act) (_ : World) : Nat := (intOf (A.tmps.getD 2 undef)).toNat - (intOf (A.tmps.getD 1 undef)).toNat
theorem PqM_is {A : Act} {s v8 v9 v10 v11 v12 : Value} {a b lim : Nat} {u : Nat → Value} {W : World} (h : A = pdF s (.int .i64 (a : Int)) (.int .i64 (b : Int)) (.int .i64 (lim : Int)) v8 v9 v10 v11 v12 u) : PqM A W = b - a := by
  subst h
  rfl
set_option maxHeartbeats 32000000 in
theorem pdq_any (base g n cap : Nat) (hn : n ≤ 1000000) : ∀ (D a b lim : Nat) (l : List Int) (w : World), b - a < D → a ≤ b → b ≤ n → lim ≤ 100 → OwU base (.slice (some ⟨g, 0, none⟩) n cap) l w → l.length = n → Dis l → LowA a b l →
    Calls Tryd.prog 37 #[.slice (some ⟨g, 0, none⟩) n cap, .int .i64 (a : Int), .int .i64 (b : Int), .int .i64 (lim : Int)] w fun e w' => e = .returned (.tuple #[]) ∧ PqA base g n cap a b l w w' := by
  intro D
  induction D with
  | zero => intro a b lim l w h; omega
  | succ D ih =>
    intro a b lim l w hD hab hbn hlim hO0 hl0 hd0 hLow0
    have gih := Lib.hid ih
    have hO := Lib.hid hO0
    have hl := Lib.hid hl0
    have hd := Lib.hid hd0
    have hLow := Lib.hid hLow0
    clear ih hO0 hl0 hd0 hLow0
    go_enter Tryd.func37, Tryd.ntmps37
    go_wp2
    refine wp_loop (PqL base g n cap a b lim l w) PqM ⟨a, b, lim, true, true, by kernel_rfl, rfl, rfl, Nat.le_refl _, Nat.le_refl _, hab, Nat.le_refl _, ⟨l, hO.out, SegP.refl _ _ _, Rest.start _ _ _, Apart.refl _ _⟩⟩ ?_
    rintro A W ⟨a1, b1, lim1, p8, p9, e1, e2, e3, h1, h2, h3, h4, ⟨L, o1, s1, r1, x1⟩⟩
    refine wp_block ?_
    have hM := PqM_is (W := W) e1
    rw [e2, e3] at e1
    refine pdT2_any base g n cap a b a1 b1 lim1 p8 p9 _ _ _ l L w W h1 h2 hbn hn hl.out hd.out o1 s1 r1 x1 hLow.out h3 (by omega) (fun a2 b2 lim2 L2 W2 k1 k2 k3 k4 k5 k6 k7 k8 k9 => gih.out a2 b2 lim2 L2 W2 (by omega) k3 (by omega) (by omega) k6 k7 k8 k9) e1 ?_ ?_
    · intro A' w' a' b' q8 q9 lim' f1 f2 f3 f4 f5 f6 f7 f8 f9
      refine ⟨⟨a', b', lim', q8, q9, f1, f2, f3, by omega, by omega, f6, by omega, f9⟩, ?_⟩
      have hM' := PqM_is (W := w') f1
      rw [hM, hM']
      exact f7
    · intro A' w' hdf hPA
      exact ret_none0 (P := Tryd.prog) (fn := Tryd.f37) (R := fun e w' => e = .returned (.tuple #[]) ∧ PqA base g n cap a b l w w') rfl hdf ⟨rfl, hPA⟩
end Go.Proofs.YtfnjcpopadpmbaaDoor
namespace Go.Proofs.YtfnjcpopadpmbaaDoor
open Go.RowKit BigFrame
set_option maxRecDepth 100000
/-- A list in rising order. -/
def msort (l : List Int) : List Int := l.mergeSort fun x y => decide (x ≤ y)
theorem msort_perm (l : List Int) : (msort l).Perm l := List.mergeSort_perm l _
theorem msort_length (l : List Int) : (msort l).length = l.length := (msort_perm l).length_eq
theorem msort_pair (l : List Int) : (msort l).Pairwise (· ≤ ·) := by
  have h := List.pairwise_mergeSort (le := fun x y : Int => decide (x ≤ y)) (fun a b c h1 h2 => by simp at *; omega) (fun a b => by simp; omega) l
  exact h.imp fun h => by simpa using h
theorem sortedIn_pair {L : List Int} (h : SortedIn 0 L.length L) : L.Pairwise (· ≤ ·) := by
  rw [List.pairwise_iff_getElem]
  intro i j hi hj hij
  have := h i j (Nat.zero_le _) (by omega) hj
  simpa [List.getD, hi, hj] using this
theorem msort_is {l L : List Int} (hp : L.Perm l) (h : SortedIn 0 L.length L) : L = msort l :=
  List.Perm.eq_of_pairwise (le := (· ≤ ·)) (fun a b _ _ h1 h2 => Int.le_antisymm h1 h2) (sortedIn_pair h) (msort_pair l) (hp.trans (msort_perm l).symm)
theorem apart_below {base g : Nat} {w w' : World} (h : Apart g w w') (hb : base ≤ g) (hs : base ≤ w.heap.size) : Below base w w' :=
  ⟨h.os, h.tape, h.output, h.size, fun b hb' => h.block b (by omega) (by omega)⟩
set_option maxHeartbeats 4000000 in
theorem ins_nil (w : World) :
    Calls Tryd.prog 47 #[.slice none 0 0, .int .i64 0, .int .i64 0] w fun e w' => e = .returned (.tuple #[]) ∧ w' = w := by
  go_enter Tryd.func47, Tryd.ntmps47
  go_wp2
  go_loopw [6] (fun vi wr => vi = .int .i64 1 ∧ wr = w) (fun _ _ => 0)
  case atStart => exact ⟨rfl, rfl⟩
  case round =>
    obtain ⟨rfl, rfl⟩ := hrel
    go_wp2
    exact ret_none rfl rfl ⟨rfl, rfl⟩
set_option maxHeartbeats 4000000 in
theorem pdq_nil (w : World) :
    Calls Tryd.prog 37 #[.slice none 0 0, .int .i64 0, .int .i64 0, .int .i64 0] w fun e w' => e = .returned (.tuple #[]) ∧ w' = w := by
  have c1 := Lib.hid (ins_nil w)
  go_enter Tryd.func37, Tryd.ntmps37
  go_wp2
  go_loopw [1, 2] (fun va vb wr => va = .int .i64 0 ∧ vb = .int .i64 0 ∧ wr = w) (fun _ _ _ => 0)
  case atStart => exact ⟨rfl, rfl, rfl⟩
  case round =>
    obtain ⟨rfl, rfl, rfl⟩ := hrel
    go_wp2_with (
      ((with_reducible refine c1.out.mono ?_)
       rintro e W1 ⟨rfl, rfl⟩))
    exact ret_none0 rfl rfl ⟨rfl, rfl⟩
set_option maxHeartbeats 4000000 in
theorem sort_any (base : Nat) (v : Value) (l : List Int) (w : World) (hO0 : OwU base v l w) (hn : l.length ≤ 1000000) (hd0 : Dis l) (hs : base ≤ w.heap.size) :
    Calls Tryd.prog 24 #[v] w fun e w' => e = .returned (.tuple #[]) ∧ OwU base v (msort l) w' ∧ Below base w w' := by
  have hcase : v = .slice none 0 0 ∧ l = [] ∨ ∃ g cap, v = .slice (some ⟨g, 0, none⟩) l.length cap ∧ base ≤ g := by
    rcases hO0.2 with ⟨h', h2⟩ | ⟨g', cap', cur, h', hb, hg, hr⟩
    · left
      exact ⟨h', List.length_eq_zero_iff.1 h2⟩
    · right
      exact ⟨g', cap', h', hb⟩
  rcases hcase with ⟨rfl, rfl⟩ | ⟨g, cap, rfl, hbg⟩
  · have c1 := Lib.hid (pdq_nil w)
    have c2 := Lib.hid (Tryd.bits_Len 0 w (by omega) (by omega))
    have e2 : Lib.bitLen (0 : Int).toNat = 0 := rfl
    rw [e2] at c2
    go_enter Tryd.func24, Tryd.ntmps24
    go_wp2_with (first
      | ((with_reducible refine c1.out.mono ?_)
         rintro e W1 ⟨rfl, rfl⟩)
      | ((with_reducible refine c2.out.mono ?_)
         rintro e W1 ⟨rfl, rfl⟩))
    exact ret_none rfl rfl ⟨rfl, by rw [show msort [] = [] by simp [msort]]; exact OwU.nil _ _, Below.refl base _⟩
  · obtain ⟨n, hln⟩ : ∃ n, l.length = n := ⟨_, rfl⟩
    obtain ⟨k, hk⟩ : ∃ k, k = Lib.bitLen n := ⟨_, rfl⟩
    rw [hln] at hO0 hn ⊢
    have hk100 : k ≤ 100 := by
      rcases Nat.eq_zero_or_pos n with h | h
      · rw [hk, h]; decide
      · obtain ⟨q, e1, e2, e3⟩ := bl_bounds 64 n h (by omega)
        rcases Nat.lt_or_ge q 21 with h' | h'
        · rw [hk]; unfold Lib.bitLen; omega
        · have : 2 ^ 21 ≤ 2 ^ q := Nat.pow_le_pow_right (by decide) h'
          omega
    have c1 := Lib.hid (show Calls Tryd.prog 37 #[.slice (some ⟨g, 0, none⟩) n cap, .int .i64 0, .int .i64 (n : Int), .int .i64 (k : Int)] w fun e w' => e = .returned (.tuple #[]) ∧ PqA base g n cap 0 n l w w' from pdq_any base g n cap hn (n + 1) 0 n k l w (by omega) (Nat.zero_le _) (Nat.le_refl _) hk100 hO0 hln hd0 (fun a1 e => by omega))
    have c2 := Lib.hid (Tryd.bits_Len (n : Int) w (by omega) (by omega))
    rw [Int.toNat_natCast, ← hk] at c2
    have hw : IntKind.u64.wrap (n : Int) = (n : Int) := by rw [IntKind.wrap_u64]; omega
    have hl := Lib.hid hln
    clear hln hk hO0 hd0
    go_enter Tryd.func24, Tryd.ntmps24
    go_wp2_with (first
      | ((with_reducible refine c1.out.mono ?_)
         rintro e W1 ⟨rfl, L, o1, s1, t1, x1⟩
         have gO := Lib.hid o1
         have gs := Lib.hid s1
         have gt := Lib.hid t1
         have gx := Lib.hid x1
         clear o1 s1 t1 x1)
      | ((with_reducible refine c2.out.mono ?_)
         rintro e W1 ⟨rfl, rfl⟩))
    have e : L = msort l := msort_is gs.out.perm (by rw [gs.out.len, hl.out]; exact gt.out)
    exact ret_none rfl rfl ⟨rfl, e ▸ gO.out, apart_below gx.out hbg hs⟩
end Go.Proofs.YtfnjcpopadpmbaaDoor
