/- Bits in a row of bytes: the reference's List. -/
/- Bits in a row of bytes: the program's take and ReadList. -/
import Derived.Test.YtihelknkcomjpaaDoorJBsC
import Derived.Test.YtihelknkcomjpaaDoorJHshX
import Derived.Test.YtihelknkcomjpaaDoorKShelf
set_option linter.unusedVariables false
set_option linter.unusedSimpArgs false
set_option linter.unnecessarySimpa false
namespace Go.Proofs.YtihelknkcomjpaaDoor
open Go.RowKit BigFrame
set_option maxRecDepth 100000
/-- A row of bits of the call's own. -/
def OwnO (base : Nat) (v : Value) (l : List Int) (w : World) : Prop := w.ownsRow base 4 1 v l.length (l.map CK.bool.mk)
theorem OwnO.later {base : Nat} {v : Value} {l : List Int} {w w' : World} (h : OwnO base v l w) (hb : Below w.heap.size w w') : OwnO base v l w' := own_later h hb
theorem OwnO.new {base : Nat} {w : World} {k : Nat} (hk : base ≤ k) (h : w.heap[k]? = some (.cells #[] 4 (0, 0))) : OwnO base (.slice (some ⟨k, 0, none⟩) 0 0) [] w :=
  ⟨rfl, Or.inr ⟨k, 0, _, rfl, hk, h, Nat.le_refl _, by decide, by simp, by simp⟩⟩
theorem OwnO.row {base n c : Nat} {va : Option Addr} {l : List Int} {w : World} (h : OwnO base (.slice va n c) l w) (hok : ∀ x ∈ l, CK.ok .bool x) : n = l.length ∧ (va = none → c = 0) ∧ Row w va .bool l ∧ ∀ b o, va = some ⟨b, o, none⟩ → o = 0 ∧ base ≤ b ∧ b < w.heap.size := by
  rcases h.2 with ⟨h1, h0⟩ | ⟨g, cap, cur, h1, h2, h3, h4, h5, h6, h7⟩
  · injection h1 with e1 e2 e3
    subst e1
    refine ⟨by omega, fun _ => e3, ⟨fun i hi => by omega, hok⟩, fun b o e => by cases e⟩
  · injection h1 with e1 e2 e3
    subst e1
    refine ⟨e2, fun e => (by cases e), ⟨fun i hi => ⟨g, 0, rfl, ?_⟩, hok⟩, fun b o e => by cases e; exact ⟨rfl, h2, block_lt h3⟩⟩
    rw [cell_of_row w g _ _ _ _ h3, Nat.zero_add]
    have e : (l.map CK.bool.mk)[i]? = some (CK.bool.mk (l.getD i 0)) := by simp [List.getD, hi]
    rw [← h7, List.getElem?_take_of_lt (by omega)] at e
    simpa using e
theorem info_boolP : ∃ i, Tryd.prog.info? 4 = some i ∧ i.zero = some (.bool false) ∧ i.size = 1 ∧ i.bytes = 1 := by
  have h : (Tryd.prog.info? 4).map (fun i => (i.zero, i.size, i.bytes)) = some (some (.bool false), 1, 1) := by kernel_rfl
  exact info_parts h
theorem wp_appO {o : Oper} {a : Act} {w w0 : World} {K : Act → World → Prop} {Q : Exit → Act → World → Prop} (s x : Operand)
    (ho : o.op = .call { callee := .builtin .append, args := #[s, x], argTypes := #[74, 74] }) (base : Nat) (l m : List Int) (v : Value) (hs : a.eval s = v) (hown : OwnO base v l w) (va : Option Addr) (k c : Nat) (hx : a.eval x = .slice va k c) (hk : k = m.length)
    (hm : Row w va .bool m) (hlen : l.length + m.length ≤ 70368744177664) (hbase : base ≤ w.heap.size) (hva : va = none → c = 0) (hb : Below base w0 w)
    (h : ∀ v' W, OwnO base v' (l ++ m) W → Below base w0 W → base ≤ W.heap.size → K (a.put o.dst v') W) : o.wp Tryd.prog a w K Q := by
  subst hk
  obtain ⟨i, hi, hz, hsz, hby⟩ := info_boolP
  cases va with
  | none =>
    have hm0 : m = [] := by
      cases m with
      | nil => rfl
      | cons y ys => obtain ⟨b, o', e, _⟩ := hm.cell 0 (by simp); cases e
    subst hm0
    rw [hva rfl] at hx
    have hrun := run_append_owned_none (P := Tryd.prog) (w := w) base 74 o.type 4 i 1 Tryd.underlying74 hi v l.length _ hown
    unfold Oper.wp
    simp [execOp, ho, resolve, invoke, builtin, hs, hx, hrun, Result.andThen]
    exact h v w (by simpa using hown) hb hbase
  | some ad =>
    refine wp_append_own (P := Tryd.prog) w s x 74 ho base 4 i (.bool false) 1 1 Tryd.underlying74 hi hz hsz hby rfl (by decide) v l.length _ hs hown ad m.length c (m.map CK.bool.mk) hx (by simp) (fun j u hu => ?_) (fun u hu => ?_) (by unfold maxLen; omega) (by omega) hbase (fun v' W h1 h2 _ => ?_)
    · have hj : j < m.length := by have := (List.getElem?_eq_some_iff.1 hu).1; simpa using this
      obtain ⟨b, o', e, hc⟩ := hm.cell j hj
      cases e
      rw [Addr.add_lit, hc]
      rw [← hu]
      simp [List.getD, hj]
    · obtain ⟨n, _, rfl⟩ := List.mem_map.1 hu
      rfl
    · exact h v' W (by unfold OwnO; rw [List.map_append, List.length_append]; exact h1) (hb.grown h2 hbase (fun k hk => own_ge hown k hk)) (Nat.le_trans hbase h2.size)
theorem row_true (W : World) (g : Nat) (h : W.heap[g]? = some (.cells #[.bool true] 4 (0, 0))) : Row W (some ⟨g, 0, none⟩) .bool [1] := by
  refine ⟨fun i hi => ⟨g, 0, rfl, ?_⟩, fun x hx => ?_⟩
  · have : i = 0 := by simp at hi; exact hi
    subst this
    rw [cell_of_row W g _ _ _ _ h]
    rfl
  · rw [List.mem_singleton.1 hx]
    exact Or.inr rfl
set_option maxHeartbeats 8000000 in
theorem rlistB_any (l : List Int) (m : Nat) (va : Option Addr) (c : Nat) (w : World) (hl0 : Row w va .bool l) (hva : va = none → c = 0) (hm : l.length = m) (hmn : m < 100000) :
    Calls Tryd.prog 84 #[.slice va m c] w fun e w' => (∃ g, e = .returned (.slice (some ⟨g, 0, none⟩) (m / 8 + 1) (m / 8 + 1)) ∧ w.heap.size ≤ g ∧ w'.heap[g]? = some (.cells (bitA (l ++ [1]) (m / 8 + 1) (m + 1)) 5 (0, 0))) ∧ Below w.heap.size w w' := by
  have hl := Lib.hid hl0
  have hok : ∀ x ∈ l ++ [1], CK.ok .bool x := fun x hx => by
    rcases List.mem_append.1 hx with h | h
    · exact hl0.ok x h
    · rw [List.mem_singleton.1 h]; exact Or.inr rfl
  have hb0 : Below w.heap.size w (w.alloc (.cells #[] 4)) := (Below.refl _ _).alloc (Nat.le_refl _) _
  have hok' := Lib.hid hok
  have hbh := Lib.hid hb0
  clear hl0 hok hb0
  go_enter Tryd.func84, Tryd.ntmps84
  go_wp2_with (first
    | ((with_reducible refine at_call_builtin .append ?_); go_loud (refine wpList_plain rfl fun K hK => wp_appO (w0 := w) (.tmp 5) (.tmp 6) rfl w.heap.size l [1] v1 rfl (h1.out.later ((Below.refl _ _).alloc (Nat.le_refl _) _)) (some ⟨W1.heap.size, 0, none⟩) 1 1 rfl rfl (row_true _ _ (heap_new _ _ _ _ rfl)) (by simp; omega) (by rw [World.size_alloc]; have := s1.out; omega) (fun h => by cases h) (b1.out.alloc s1.out _) (fun v2 W2 h2 b2 s2 => hK _ _ ?_)); clear hK K
       obtain ⟨vb, cb, ev, _⟩ := own_form h2
       subst ev
       obtain ⟨e1, e2, hR, hlo⟩ := OwnO.row h2 hok'.out
       have hcall0 := rvectorB_any (l ++ [1]) (m + 1) vb cb W2 hR (by simp; omega) (by omega)
       rw [show (m + 1 + 7) / 8 = m / 8 + 1 by omega] at hcall0
       have hcall := Lib.hid hcall0
       clear hcall0
       have b3 := Lib.hid b2
       have s3 := Lib.hid s2
       clear h2 b2 s2 hR hlo)
    | ((with_reducible refine at_call_builtin .append ?_); go_loud (refine wpList_plain rfl fun K hK => wp_appO (w0 := w) (.tmp 3) (.tmp 4) rfl w.heap.size [] l (.slice (some ⟨w.heap.size, 0, none⟩) 0 0) rfl (OwnO.new (Nat.le_refl _) (heap_new _ _ _ _ rfl)) va m c rfl hm.symm (hl.out.later hbh.out) (by simp; omega) hbh.out.size hva hbh.out (fun v1 W1 h1' b1' s1' => hK _ _ ?_)); clear hK K
       have h1 := Lib.hid h1'
       have b1 := Lib.hid b1'
       have s1 := Lib.hid s1'
       clear h1' b1' s1')
    | ((with_reducible refine hcall.out.mono ?_)
       rintro e W ⟨rfl, hC3, hB3⟩
       have hC := Lib.hid hC3
       have hB := Lib.hid (b3.out.trans (hB3.mono s3.out))
       clear hC3 hB3))
  exact ret_t1 rfl _ rfl rfl ⟨⟨_, rfl, s3.out, hC.out⟩, hB.out⟩
end Go.Proofs.YtihelknkcomjpaaDoor
namespace Go.Proofs.YtihelknkcomjpaaDoor
open Go.RowKit BigFrame
set_option maxRecDepth 100000
/-- The bits of a byte. -/
def bitV (y : Int) (j : Nat) : Int := y / 2 ^ j % 2
theorem and1 (z : Int) (h0 : 0 ≤ z) (h1 : z ≤ 255) : bits BinOp.and IntKind.u8 z 1 = z % 2 := by
  have h : ∀ n : Fin 256, bits BinOp.and IntKind.u8 ((n : Nat) : Int) 1 = ((n : Nat) : Int) % 2 := by decide +kernel
  have h2 := h ⟨z.toNat, by omega⟩
  rw [show ((z.toNat : Nat) : Int) = z by omega] at h2
  exact h2
/-- Bit i of these bytes. -/
def bitR (l : List Int) (i : Nat) : Int := bitV (l.getD (i / 8) 0) (i % 8)
theorem bitV_two (y : Int) (j : Nat) : bitV y j = 0 ∨ bitV y j = 1 := by
  have hb : 0 ≤ bitV y j ∧ bitV y j < 2 := ⟨Int.emod_nonneg _ (by decide), Int.emod_lt_of_pos _ (by decide)⟩
  omega
/-- A row of bits of which the first k are taken. -/
def takN (l : List Int) (n k : Nat) : Array Value := (fcells n (fun _ => .bool) fun j => if j < k then bitR l j else 0).toArray
theorem takN_size (l : List Int) (n k : Nat) : (takN l n k).size = n := by simp [takN, fcells]
theorem takN_zero (l : List Int) (n : Nat) : madeCells #[Value.bool false] n = takN l n 0 := by
  refine cells_eq (by simp [madeCells]) fun j hj => ?_
  simp [madeCells, hj, Nat.mod_one, CK.mk]
theorem takN_set (l : List Int) (n k : Nat) (hk : k < n) : (takN l n k).setIfInBounds k (.bool (decide (bitR l k = 1))) = takN l n (k + 1) := by
  refine cells_eq (by rw [Array.size_setIfInBounds, takN_size]) fun j hj => ?_
  rw [Array.getElem?_setIfInBounds]
  by_cases e : k = j
  · subst e
    rw [if_pos rfl, if_pos (by rw [takN_size]; exact hj), if_pos (by omega)]
    rcases bitV_two (l.getD (k / 8) 0) (k % 8) with h2 | h2 <;> unfold bitR <;> rw [h2] <;> rfl
  · rw [if_neg e]
    unfold takN
    rw [List.getElem?_toArray, fcells_get _ _ _ _ hj]
    by_cases c : j < k
    · rw [if_pos c, if_pos (by omega)]
    · rw [if_neg c, if_neg (by omega)]
theorem info_boolb : (Tryd.prog.info? 4).map (fun i => (i.zero, i.size, i.bytes)) = some (some (.bool false), 1, 1) := by kernel_rfl
theorem run_makeBools {ρ : Operand → Value} {o : Oper} (w : World) (x y : Operand) (ho : o.op = .makeSlice 74 x y) (n : Nat) (hx : ρ x = .int .i64 (n : Int)) (hy : ρ y = .int .i64 (n : Int)) (hn : n ≤ 4294967296) :
    (execOp ρ o).run Tryd.prog w = .ok (.value (.slice (some ⟨w.heap.size, 0, none⟩) n n)) (w.alloc (.cells (madeCells #[.bool false] n) 4)) := by
  obtain ⟨i, hi, hz, hs, hb⟩ := info_parts info_boolb
  have h := run_make (P := Tryd.prog) w 74 4 i _ Tryd.underlying74 hi hz .i64 .i64 n n (by omega) (Int.le_refl _) (by rw [hb]; omega) (by omega)
  simp only [Int.toNat_natCast, hs, Nat.mul_one] at h
  unfold execOp
  simp only [ho, hx, hy, Sem.run_bind, h, Result.andThen_ok, Sem.run_pure]
  rfl
theorem div_byte {y : Int} (h0 : 0 ≤ y) (h1 : y ≤ 255) (r : Nat) : 0 ≤ y / 2 ^ r ∧ y / 2 ^ r ≤ 255 := by
  have hp : (0 : Int) ≤ 2 ^ r := Int.pow_nonneg (by decide)
  refine ⟨Int.ediv_nonneg h0 hp, Int.le_trans (Int.ediv_le_self _ h0) h1⟩
set_option maxHeartbeats 8000000 in
theorem takeB_any (l : List Int) (m n : Nat) (va : Option Addr) (c : Nat) (w : World) (hl0 : Row w va .u8 l) (hlow0 : ∀ b o, va = some ⟨b, o, none⟩ → b < w.heap.size) (hm : l.length = m) (hn : n ≤ 8 * m) (hn2 : n ≤ 100000) :
    Calls Tryd.prog 122 #[.slice va m c, .int .i64 (n : Int)] w fun e w' => e = .returned (.slice (some ⟨w.heap.size, 0, none⟩) n n) ∧ w'.heap[w.heap.size]? = some (.cells (takN l n n) 4 (0, 0)) ∧ Below w.heap.size w w' := by
  have hl := Lib.hid hl0
  have hlow := Lib.hid hlow0
  clear hl0 hlow0
  have hmd := Lib.hid (takN_zero l n)
  have hnn : n ≤ 4294967296 := by omega
  go_enter Tryd.func122, Tryd.ntmps122
  go_wp2_with (first
    | ((with_reducible refine at_make 74 ?_); go_loud (refine wpList_plain rfl fun K hK => wp_ran _ (run_makeBools _ _ _ rfl n rfl rfl hnn) (hK _ _ ?_)); clear hK K; rw [hmd.out]))
  refine gen_world (fun W => W.heap[w.heap.size]? = some (.cells (takN l n 0) 4 (0, 0)) ∧ Below w.heap.size w W) ⟨heap_new _ _ _ _ rfl, (Below.refl _ _).alloc (Nat.le_refl _) _⟩ ?_
  rintro W0 ⟨hC0, hB0⟩
  go_loopw [11] (fun i wr => ∃ k : Nat, k ≤ n ∧ i = .int .i64 (k : Int) ∧ wr.heap[w.heap.size]? = some (.cells (takN l n k) 4 (0, 0)) ∧ Below w.heap.size w wr) (fun i _ => n - (intOf i).toNat)
  case atStart => exact ⟨0, by omega, rfl, hC0, hB0⟩
  case round =>
    obtain ⟨k, hk, rfl, hC1, hB1⟩ := hrel
    clear hC0 hB0
    have hC := Lib.hid hC1
    have hB := Lib.hid hB1
    clear hC1 hB1
    by_cases hlt : k < n
    · have lk : decide ((k : Int) < (n : Int)) = true := by simp; omega
      obtain ⟨q, hq⟩ : ∃ q, q = k / 8 := ⟨_, rfl⟩
      obtain ⟨r, hr⟩ : ∃ r, r = k % 8 := ⟨_, rfl⟩
      have hqm : q < m := by omega
      obtain ⟨b, o, e0, hcell0⟩ := hl.out.cell q (by omega)
      subst e0
      have hcy0 := (hB.out.cell (p := ⟨b, o + q, none⟩) (hlow.out b o rfl)).trans hcell0
      have hy : CK.ok .u8 (l.getD q 0) := hl.out.ok _ (by
        rw [show l.getD q 0 = l[q]'(by omega) by simp [List.getD, show q < l.length by omega]]
        exact List.getElem_mem _)
      have hz : bitR l k = bitV (l.getD q 0) r := by unfold bitR; rw [hq, hr]
      have hts := Lib.hid (takN_set l n k hlt)
      rw [hz] at hts
      obtain ⟨y, hyd⟩ : ∃ y, y = l.getD q 0 := ⟨_, rfl⟩
      rw [← hyd] at hcy0 hy hts
      have hcy := Lib.hid (show wr.cell? ⟨b, o + q, none⟩ = some (.int .u8 y) from hcy0)
      obtain ⟨hy0, hy1⟩ := hy
      obtain ⟨z, hzd⟩ : ∃ z, z = bitV y r := ⟨_, rfl⟩
      have hb6 : bits BinOp.and IntKind.i64 (k : Int) 7 = (r : Int) := by rw [and7 _ (by omega) (by omega)]; omega
      have hbq : (k : Int) / 8 = (q : Int) := by omega
      have hand : bits BinOp.and IntKind.u8 (y / 2 ^ r) 1 = z := by
        obtain ⟨g0, g1⟩ := div_byte (y := y) hy0 (by omega) r
        rw [and1 _ g0 g1, hzd]
        rfl
      have hdz : (bits BinOp.and IntKind.u8 (y / 2 ^ r) 1 == 1) = decide (z = 1) := by rw [hand]; rfl
      clear hand
      rw [← hzd] at hts
      have h8 : r < 8 := by omega
      clear hcell0 hcy0 hz hq hr hyd hzd hy0 hy1
      rcases eight h8 with rfl | rfl | rfl | rfl | rfl | rfl | rfl | rfl
      all_goals clear h8
      all_goals simp only [Int.pow_zero, Int.ediv_one, Int.reducePow, Int.cast_ofNat_Int] at hdz hb6
      all_goals go_wp2_with (first
          | ((with_reducible refine at_iaddr 34 ?_); go_loud (refine wpList_value (by rfl) _ (run_index_slice _ 34 5 _ _ rfl Tryd.underlying34 1 sz_u8 b o m c rfl .i64 q rfl hqm (o + q) (by omega)) ?_))
          | ((with_reducible refine at_load 5 ?_); go_loud (refine wpList_value (by rfl) _ (run_load_cell _ 5 _ (by rfl) ⟨b, o + q, none⟩ rfl _ hcy.out _ Tryd.underlying5 rfl) ?_))
          | ((with_reducible refine at_iaddr 74 ?_); go_loud (refine wpList_value (by rfl) _ (run_index_slice _ 74 4 _ _ rfl Tryd.underlying74 1 sz_bool w.heap.size 0 n n rfl .i64 k rfl hlt k (by omega)) ?_))
          | ((with_reducible refine at_store 4 ?_); go_loud (refine wpList_plain rfl fun K hK => wp_store1 4 _ _ rfl w.heap.size k rfl (.bool (decide (z = 1))) rfl rfl sz_bool _ 4 hC.out (by rw [takN_size]; exact hlt) (fun W1 hC1 hA1 => hK _ _ ?_)); clear hK K
             have hC2 := Lib.hid hC1
             have hB2 := Lib.hid (hA1.below hB.out (Nat.le_refl _) hB.out.size)
             clear hC1 hA1))
      all_goals have hC3 := hC2.out
      all_goals rw [hts.out] at hC3
      all_goals first
        | exact ⟨⟨k + 1, by omega, by go_num, hC3, hB2.out⟩, by simp [intOf]; omega⟩
        | (refine ⟨?_, by simp [intOf]; omega⟩
           (repeat apply Exists.intro)
           exact ⟨⟨k + 1, by omega, by go_num, hC3, hB2.out⟩, rfl⟩)
    · have e : k = n := by omega
      subst e
      have lk : decide ((k : Int) < (k : Int)) = false := by simp
      clear hlt hk
      go_wp2
      exact ret_t1 rfl _ rfl rfl ⟨rfl, hC.out, hB.out⟩
/-- A row of bits, where it lies. -/
def BoAt (l : List Int) (s : Value) (W : World) : Prop := ∃ va c, s = .slice va l.length c ∧ (va = none → c = 0) ∧ Row W va .bool l
/-- The same, behind a base. -/
def BoOwn (l : List Int) (s : Value) (base : Nat) (W : World) : Prop := ∃ va c, s = .slice va l.length c ∧ (va = none → c = 0) ∧ Row W va .bool l ∧ ∀ b o, va = some ⟨b, o, none⟩ → base ≤ b ∧ b < W.heap.size
theorem BoOwn.at {l : List Int} {s : Value} {base : Nat} {W : World} (h : BoOwn l s base W) : BoAt l s W := by
  obtain ⟨va, c, h1, h2, h3, _⟩ := h
  exact ⟨va, c, h1, h2, h3⟩
theorem BoOwn.later {l : List Int} {s : Value} {base : Nat} {W W' : World} (h : BoOwn l s base W) (hb : Below W.heap.size W W') : BoOwn l s base W' := by
  obtain ⟨va, c, h1, h2, h3, h4⟩ := h
  exact ⟨va, c, h1, h2, h3.later hb, fun b o e => ⟨(h4 b o e).1, Nat.lt_of_lt_of_le (h4 b o e).2 hb.size⟩⟩
theorem BoOwn.nil (base : Nat) (W : World) : BoOwn [] (.slice none 0 0) base W := ⟨none, 0, rfl, fun _ => rfl, ⟨fun i hi => absurd hi (by simp), fun x hx => by cases hx⟩, fun b o e => by cases e⟩
/-- What ReadList answers. -/
def lastB (l : List Int) : Int := l.getD (l.length - 1) 0
def lenR (l : List Int) : Nat := 8 * (l.length - 1) + Lib.bitLen (lastB l).toNat - 1
def errR (l : List Int) : Nat := if l.length = 0 then 4 else if lastB l = 0 then 5 else if 64 < lenR l then 6 else 0
def bitsL (l : List Int) (n : Nat) : List Int := (List.range n).map (bitR l)
def bitsR (l : List Int) : List Int := if errR l = 0 then bitsL l (lenR l) else []
theorem bitsL_length (l : List Int) (n : Nat) : (bitsL l n).length = n := by simp [bitsL]
theorem bitsL_get (l : List Int) (n j : Nat) (h : j < n) : (bitsL l n).getD j 0 = bitR l j := by simp [bitsL, List.getD, h]
theorem bitsL_ok (l : List Int) (n : Nat) : ∀ x ∈ bitsL l n, CK.ok .bool x := fun x hx => by
  obtain ⟨j, _, rfl⟩ := List.mem_map.1 hx
  exact bitV_two _ _
theorem takN_row {W : World} {g n : Nat} {l : List Int} (h : W.heap[g]? = some (.cells (takN l n n) 4 (0, 0))) : Row W (some ⟨g, 0, none⟩) .bool (bitsL l n) := by
  refine ⟨fun i hi => ⟨g, 0, rfl, ?_⟩, bitsL_ok l n⟩
  rw [bitsL_length] at hi
  rw [cell_of_row W g (0 + i) _ _ _ h, Nat.zero_add, bitsL_get l n i hi]
  unfold takN
  rw [List.getElem?_toArray, fcells_get _ _ _ _ hi, if_pos hi]
theorem takN_own {W : World} {g base n : Nat} {l : List Int} (h : W.heap[g]? = some (.cells (takN l n n) 4 (0, 0))) (hg : base ≤ g) : BoOwn (bitsL l n) (.slice (some ⟨g, 0, none⟩) n n) base W :=
  ⟨some ⟨g, 0, none⟩, n, by rw [bitsL_length], fun e => (by cases e), takN_row h, fun b o e => by cases e; exact ⟨hg, block_lt h⟩⟩
theorem bitLen_byte (y : Int) (h0 : 0 ≤ y) (h1 : y ≤ 255) : Lib.bitLen y.toNat ≤ 8 ∧ (y ≠ 0 → 1 ≤ Lib.bitLen y.toNat ∧ bitV y (Lib.bitLen y.toNat - 1) = 1) ∧ ∀ j, j < 8 → Lib.bitLen y.toNat ≤ j → bitV y j = 0 := by
  have h : ∀ n : Fin 256, Lib.bitLen (n : Nat) ≤ 8 ∧ (((n : Nat) : Int) ≠ 0 → 1 ≤ Lib.bitLen (n : Nat) ∧ bitV ((n : Nat) : Int) (Lib.bitLen (n : Nat) - 1) = 1) ∧ ∀ j, j < 8 → Lib.bitLen (n : Nat) ≤ j → bitV ((n : Nat) : Int) j = 0 := by unfold bitV; decide +kernel
  have h2 := h ⟨y.toNat, by omega⟩
  rw [show (((⟨y.toNat, by omega⟩ : Fin 256) : Nat) : Int) = y from by show ((y.toNat : Nat) : Int) = y; omega] at h2
  exact h2
set_option maxHeartbeats 8000000 in
theorem readListB_any (l : List Int) (m : Nat) (va : Option Addr) (c : Nat) (w : World) (hl0 : Row w va .u8 l) (hlow0 : ∀ b o, va = some ⟨b, o, none⟩ → b < w.heap.size) (hm : l.length = m) (hmn : m < 4294967296) :
    Calls Tryd.prog 86 #[.slice va m c, .int .i64 64] w fun e w' => (∃ s, e = .returned (.tuple #[s, .int .i64 (errR l : Int)]) ∧ BoOwn (bitsR l) s w.heap.size w') ∧ Below w.heap.size w w' := by
  have key : errR l ≠ 0 → ∀ e' : Ending, e' = .returned (.tuple #[.slice none 0 0, .int .i64 (errR l : Int)]) → ∀ w', ∃ s, e' = .returned (.tuple #[s, .int .i64 (errR l : Int)]) ∧ BoOwn (bitsR l) s w.heap.size w' := fun hn e' he w' => ⟨_, he, by unfold bitsR; rw [if_neg hn]; exact BoOwn.nil _ _⟩
  by_cases h0 : m = 0
  · have he : errR l = 4 := by unfold errR; rw [if_pos (by omega)]
    have key' := Lib.hid (key (by omega))
    rw [he] at key' ⊢
    clear key hl0 hlow0
    subst h0
    go_enter Tryd.func86, Tryd.ntmps86
    go_wp2
    exact ret_t2 rfl _ _ rfl rfl rfl ⟨key'.out _ rfl _, Below.refl _ _⟩
  · obtain ⟨p, hp⟩ : ∃ p, p = m - 1 := ⟨_, rfl⟩
    obtain ⟨b, o, e0, hcell0⟩ := hl0.cell p (by omega)
    have hb := hlow0 b o e0
    have hy : CK.ok .u8 (l.getD p 0) := hl0.ok _ (by
      rw [show l.getD p 0 = l[p]'(by omega) by simp [List.getD, show p < l.length by omega]]
      exact List.getElem_mem _)
    have hlast : lastB l = l.getD p 0 := by unfold lastB; rw [hm, hp]
    obtain ⟨y, hyd⟩ : ∃ y, y = l.getD p 0 := ⟨_, rfl⟩
    rw [← hyd] at hcell0 hy hlast
    obtain ⟨hy0, hy1⟩ := hy
    have hy2 : y ≤ 255 := by omega
    have hcell := Lib.hid (show w.cell? ⟨b, o + p, none⟩ = some (.int .u8 y) from hcell0)
    have hpm : p < m := by omega
    have hm1 : (m : Int) - 1 = (p : Int) := by omega
    have bm : decide ((m : Int) = 0) = false := by simp; omega
    have bm2 : ((m : Int) == 0) = false := by simp; omega
    by_cases cy : y = 0
    · have he : errR l = 5 := by unfold errR; rw [if_neg (by omega), if_pos (by rw [hlast, cy])]
      have key' := Lib.hid (key (by omega))
      rw [he] at key' ⊢
      clear key hl0 hlow0 hp hlast hyd hcell0 hy0 hy1 hy2
      subst cy
      subst e0
      go_enter Tryd.func86, Tryd.ntmps86
      go_wp2_with (first
        | ((with_reducible refine at_iaddr 34 ?_); go_loud (refine wpList_value (by rfl) _ (run_index_sliceI _ 34 5 _ _ rfl Tryd.underlying34 1 sz_u8 b o m c rfl .i64 (p : Int) rfl p rfl hpm (o + p) (by omega)) ?_))
        | ((with_reducible refine at_load 5 ?_); go_loud (refine wpList_value (by rfl) _ (run_load_cell _ 5 _ (by rfl) ⟨b, o + p, none⟩ rfl _ hcell.out _ Tryd.underlying5 rfl) ?_)))
      exact ret_t2 rfl _ _ rfl rfl rfl ⟨key'.out _ rfl _, Below.refl _ _⟩
    · obtain ⟨q1, q2, q3⟩ := bitLen_byte y hy0 hy2
      obtain ⟨q4, q5⟩ := q2 cy
      have hlz := Lib.hid (Tryd.bits_LeadingZeros8 y w hy0 hy2)
      have hlen : lenR l = 8 * p + Lib.bitLen y.toNat - 1 := by unfold lenR; rw [hlast, hm, hp]
      obtain ⟨z, hz⟩ : ∃ z, z = Lib.bitLen y.toNat := ⟨_, rfl⟩
      rw [← hz] at hlz hlen q1 q4
      obtain ⟨n, hn⟩ : ∃ n, n = lenR l := ⟨_, rfl⟩
      rw [← hn] at hlen
      have b1 : decide (y = 0) = false := decide_eq_false cy
      have b2 : (y == 0) = false := by simpa using cy
      have hz8 : (z : Int) ≤ 8 := by omega
      have hz1 : (1 : Int) ≤ z := by omega
      have hmI : (m : Int) < 4294967296 := by omega
      have hnn : 8 * (m : Int) - 1 - (8 - (z : Int)) = (n : Int) := by omega
      have hn8 : n ≤ 8 * m := by omega
      by_cases c64 : 64 < n
      · have he : errR l = 6 := by unfold errR; rw [if_neg (by omega), if_neg (by rw [hlast]; exact cy), if_pos (by omega)]
        have key' := Lib.hid (key (by omega))
        have b3 : decide ((64 : Int) < (n : Int)) = true := by simp; omega
        rw [he] at key' ⊢
        clear key hl0 hlow0 hp hlast hyd hcell0 hy0 hy1 hy2 q1 q2 q3 q4 q5 hz hn hlen cy
        subst e0
        go_enter Tryd.func86, Tryd.ntmps86
        go_wp2_with (first
          | ((with_reducible refine at_iaddr 34 ?_); go_loud (refine wpList_value (by rfl) _ (run_index_sliceI _ 34 5 _ _ rfl Tryd.underlying34 1 sz_u8 b o m c rfl .i64 (p : Int) rfl p rfl hpm (o + p) (by omega)) ?_))
          | ((with_reducible refine at_load 5 ?_); go_loud (refine wpList_value (by rfl) _ (run_load_cell _ 5 _ (by rfl) ⟨b, o + p, none⟩ rfl _ hcell.out _ Tryd.underlying5 rfl) ?_))
          | ((with_reducible refine hlz.out.mono ?_)
             rintro e W ⟨rfl, rfl⟩))
        exact ret_t2 rfl _ _ rfl rfl rfl ⟨key'.out _ rfl _, Below.refl _ _⟩
      · have he : errR l = 0 := by unfold errR; rw [if_neg (by omega), if_neg (by rw [hlast]; exact cy), if_neg (by omega)]
        have hbl : bitsR l = bitsL l n := by unfold bitsR; rw [if_pos he, hn]
        have htk := Lib.hid (takeB_any l m n va c w hl0 hlow0 hm hn8 (by omega))
        have b3 : decide ((64 : Int) < (n : Int)) = false := by simp; omega
        rw [he, hbl]
        clear key hl0 hlow0 hp hlast hyd hcell0 hy0 hy1 hy2 q1 q2 q3 q4 q5 hz hn hlen cy
        subst e0
        go_enter Tryd.func86, Tryd.ntmps86
        go_wp2_with (first
          | ((with_reducible refine at_iaddr 34 ?_); go_loud (refine wpList_value (by rfl) _ (run_index_sliceI _ 34 5 _ _ rfl Tryd.underlying34 1 sz_u8 b o m c rfl .i64 (p : Int) rfl p rfl hpm (o + p) (by omega)) ?_))
          | ((with_reducible refine at_load 5 ?_); go_loud (refine wpList_value (by rfl) _ (run_load_cell _ 5 _ (by rfl) ⟨b, o + p, none⟩ rfl _ hcell.out _ Tryd.underlying5 rfl) ?_))
          | ((with_reducible refine hlz.out.mono ?_)
             rintro e W ⟨rfl, rfl⟩)
          | ((with_reducible refine htk.out.mono ?_)
             rintro e W ⟨rfl, hC3, hB3⟩
             have hC := Lib.hid hC3
             have hB := Lib.hid hB3
             clear hC3 hB3))
        exact ret_t2 rfl _ _ rfl rfl rfl ⟨⟨_, rfl, takN_own hC.out (Nat.le_refl _)⟩, hB.out⟩
end Go.Proofs.YtihelknkcomjpaaDoor
