import Derived.Test.YtmoofccblbaepaaDoorJRqS
import Derived.Test.YtmoofccblbaepaaDoorKScE
set_option linter.unusedVariables false
set_option linter.unusedSimpArgs false
set_option linter.unnecessarySimpa false
/- The committee: reading, the reference's. -/
namespace Go.Proofs.YtmoofccblbaepaaDoor
open Go.RowKit BigFrame
set_option maxRecDepth 100000
section
variable {n N : Nat} {kd : Nat → CK} {t : TypeId} {m : Nat} {r : Nat → Int} {gp cp : Nat} {ps : List (List Int)} {w W W' : World}
theorem RqS.partB (h : RqS n N kd t m r gp cp ps w W) (i k : Nat) (q : List Int) (hi : i < ps.length) (hq : ps.getD i [] = q) (hk : q.length = k) : ∃ va ci, W.cell? ⟨gp, i, none⟩ = some (.slice va k ci) ∧ SlB va ci q W ∧ n + 2 ≤ gp ∧ gp < W.heap.size ∧ ∀ b o, va = some ⟨b, o, none⟩ → n + 2 ≤ b := by
  obtain ⟨g, c, e, hg, hgs, h2⟩ := h.hP
  injection e with e1 e2 e3
  cases e1
  obtain ⟨va, ci, h3, h4, h5, h6, h7⟩ := h2 i hi
  rw [hq] at h3 h4 h6
  rw [hk] at h3
  exact ⟨va, ci, h3, ⟨h4, h5, h6, fun b o e => (h7 b o e).2⟩, hg, hgs, fun b o e => (h7 b o e).1⟩
/-- One cell is stored, told of worlds. -/
theorem wp_rq1 {o : Oper} {a : Act} {K : Act → World → Prop} {Q : Exit → Act → World → Prop} (ty : TypeId) (x y : Operand) (ho : o.op = .store ty x y) (off : Nat) (hx : a.eval x = .pointer (some ⟨n + 1, off, none⟩)) (u : Value) (hy : a.eval y = u) (v : Int) (hu : u = (kd off).mk v) (hz : (Tryd.prog.info? ty).map (·.size) = some 1)
    (h : RqS n N kd t m r gp cp ps w W) (hm : m = off) (hN : off < N) (hr : v = r off) (hk : ∀ W', RqS n N kd t (off + 1) r gp cp ps w W' → Apart (n + 1) W W' → K (a.put o.dst undef) W') : o.wp Tryd.prog a W K Q := by
  obtain ⟨g, h1, h2⟩ := h.hX
  subst hu
  subst hm
  refine wp_store1 ty x y ho (n + 1) m hx _ hy (by cases kd m <;> rfl) hz _ t h1 (by simp [fcells]; exact hN) (fun W' hC hA => hk W' ?_ hA)
  refine h.box hA (fun k => if k = m then v else g k) ?_ (fun k hk => ?_)
  · rw [hC]
    congr 2
    refine fcells_ext (by simp [fcells]) fun j hj => ?_
    rw [Array.getElem?_setIfInBounds]
    by_cases e : m = j
    · subst e
      simp [fcells, hN]
    · rw [if_neg e, if_neg (fun e2 => e e2.symm), List.getElem?_toArray, fcells_get _ _ _ _ hj]
  · by_cases e2 : k = m
    · rw [if_pos e2, e2]; exact hr
    · rw [if_neg e2]; exact h2 k (by omega)
end
set_option maxHeartbeats 16000000 in
theorem rreadCommittee_ok (l : List Int) (va : Option Addr) (c : Nat) (w : World) (hs0 : SlB va c l w) (hkl0 : l.length = 432) :
    Calls Tryd.prog 57 #[.slice va 432 c] w fun e w' => e = .returned (.tuple #[.agg (fcells 432 kdCommittee (rdCommittee l)).toArray, .int .i64 0]) ∧ Below w.heap.size w w' := by
  have hsl := Lib.hid hs0
  have hkl := Lib.hid hkl0
  clear hkl0
  clear hs0
  go_enter Tryd.func57, Tryd.ntmps57
  go_wp2_with (first
    | ((with_reducible refine at_alloc 92 ?_); refine wpList_plain rfl fun K hK => wp_alloc_row 92 rfl 2 rfl _ 432 infoCommittee (hK _ _ ?_); clear hK K)
    | ((with_reducible refine at_alloc 92 ?_); refine wpList_plain rfl fun K hK => wp_alloc_row 92 rfl 4 rfl _ 432 infoCommittee (hK _ _ ?_); clear hK K
       refine gen_l (fun W => RqB w.heap.size 432 kdCommittee 92 0 (rdCommittee l) w W) (RqB.begin rfl rfl) ?_
       intro W hS1
       have hl := Lib.hid (hsl.out.later hS1.hB)
       have hS := Lib.hid hS1
       clear hS1)
    | ((with_reducible refine (RqB.cut hS.out (K := 2) (k := 432) [384, 48] ?hV hl.out hkl.out rfl (by decide) (by decide) (by decide) rfl).mono ?hM)
       case hV => rfl
       rintro e W ⟨gp, cp, rfl, hS1⟩
       clear hl
       clear hS
       have hS := Lib.hid hS1
       clear hS1))
  go_loopw [7] (fun i wr => ∃ k : Nat, k ≤ 8 ∧ i = .int .i64 (k : Int) ∧ RqS w.heap.size 432 kdCommittee 92 (48 * k) (rdCommittee l) gp cp (cutL [384, 48] l) w wr) (fun i _ => 8 - (intOf i).toNat)
  case atStart => exact ⟨0, by omega, rfl, hS.out⟩
  case round =>
    obtain ⟨k, hk, rfl, hS1⟩ := hrel
    clear hS
    have hS := Lib.hid hS1
    clear hS1
    by_cases hlt : k < 8
    · have lk : (k : Int) < 8 := by omega
      go_wp2
      rename_i wr0
      go_loopw [8] (fun i wr => ∃ j : Nat, j ≤ 48 ∧ i = .int .i64 (j : Int) ∧ RqS w.heap.size 432 kdCommittee 92 (48 * k + j) (rdCommittee l) gp cp (cutL [384, 48] l) w wr) (fun i _ => 48 - (intOf i).toNat)
      case atStart => exact ⟨0, by omega, rfl, hS.out⟩
      case round =>
        obtain ⟨j, hj, rfl, hS1⟩ := hrel
        clear hS
        have hS := Lib.hid hS1
        clear hS1
        by_cases hlj : j < 48
        · have lj : (j : Int) < 48 := by omega
          obtain ⟨q, hqe⟩ : ∃ q, q = (l.drop 0).take 384 := ⟨_, rfl⟩
          have hql : q.length = 384 := by rw [hqe]; exact part_len l 0 384 432 hkl.out (by decide)
          obtain ⟨vq, cq, hcq, hq1, hgp, hgs, hbb⟩ := hS.out.partB 0 384 q (by rw [cutL_length]; decide) (by rw [hqe]; exact part_at [384, 48] l 0 0 384 (by decide) (by decide) rfl rfl) hql
          obtain ⟨bq, oq, e0, hcell⟩ := hq1.row.cell (48 * k + j) (by rw [hql]; omega)
          subst e0
          have hbq := hbb bq oq rfl
          have hbs := hq1.low bq oq rfl
          obtain ⟨y, hye1⟩ : ∃ y, y = q.getD (48 * k + j) 0 := ⟨_, rfl⟩
          rw [← hye1] at hcell
          rw [hqe, drop_take_get _ _ _ _ (by omega), Nat.zero_add] at hye1
          have hye := Lib.hid hye1
          have hcq' := Lib.hid hcq
          have hcell' := Lib.hid hcell
          clear hye1 hqe hql hq1 hbb hcq hcell
          have hw6 : IntKind.i64.wrap (48 * (k : Int)) = ((48 * k : Nat) : Int) := by rw [IntKind.wrap_i64]; omega
          have hw8 : IntKind.i64.wrap (((48 * k : Nat) : Int) + (j : Int)) = ((48 * k + j : Nat) : Int) := by rw [IntKind.wrap_i64]; omega
          have hw9 : IntKind.i64.wrap (48 * (k : Int) + (j : Int)) = 48 * (k : Int) + (j : Int) := by rw [IntKind.wrap_i64]; omega
          go_wp2
          rename_i K hK
          refine wp_region_held (S := fun w' => w'.cell? ⟨gp, 0, none⟩ = some (.slice (some ⟨bq, oq, none⟩) 384 cq) ∧ w'.cell? ⟨bq, oq + (48 * k + j), none⟩ = some (.int .u8 y)) (by kernel_rfl) ?_
          have hTT : ({ wr with drawn := wr.drawn + 1 } : World).cell? ⟨gp, 0, none⟩ = some (.slice (some ⟨bq, oq, none⟩) 384 cq) ∧ ({ wr with drawn := wr.drawn + 1 } : World).cell? ⟨bq, oq + (48 * k + j), none⟩ = some (.int .u8 y) := ⟨hcq'.out, hcell'.out⟩
          have hS2 := hS.out.later (W' := { wr with drawn := wr.drawn + 1 }) ⟨rfl, rfl, rfl, Nat.le_refl _, fun _ _ => rfl⟩
          refine takeL (i := 0) (v := (.int .i64 (k : Int))) rfl (by kernel_rfl) (by kernel_rfl) (by kernel_rfl) (fun _ _ _ h => h) rfl (by assumption) (fun w' hS' => by go_simp) ?_
          simp only [Act.put, List.setIfInBounds_toArray, List.set_cons_zero, List.set_cons_succ]
          refine takeL (i := 1) (v := (.int .i64 (j : Int))) rfl (by kernel_rfl) (by kernel_rfl) (by kernel_rfl) (fun _ _ _ h => h) rfl (by assumption) (fun w' hS' => by go_simp) ?_
          simp only [Act.put, List.setIfInBounds_toArray, List.set_cons_zero, List.set_cons_succ]
          refine takeL (i := 2) (v := (.slice (some ⟨gp, 0, none⟩) 2 cp)) rfl (by kernel_rfl) (by kernel_rfl) (by kernel_rfl) (fun _ _ _ h => h) rfl (by assumption) (fun w' hS' => by go_simp) ?_
          simp only [Act.put, List.setIfInBounds_toArray, List.set_cons_zero, List.set_cons_succ]
          refine takeL (i := 3) (v := (.pointer (some ⟨gp, 0, none⟩))) rfl (by kernel_rfl) (by kernel_rfl) (by kernel_rfl) (fun _ _ _ h => h) rfl (by assumption) (fun w' _ => run_index_slice w' 157 25 _ _ (by rfl) Tryd.underlying157 1 sz_bs gp 0 2 cp (by rfl) .i64 0 (by rfl) (by decide) 0 (by decide)) ?_
          simp only [Act.put, List.setIfInBounds_toArray, List.set_cons_zero, List.set_cons_succ]
          refine takeL (i := 4) (v := (.slice (some ⟨bq, oq, none⟩) 384 cq)) rfl (by kernel_rfl) (by kernel_rfl) (by kernel_rfl) (fun _ _ _ h => h) rfl (by assumption) (fun w' hS' => run_load_cell w' 25 _ (by rfl) ⟨gp, 0, none⟩ (by rfl) _ hS'.1 _ Tryd.underlying25 rfl) ?_
          simp only [Act.put, List.setIfInBounds_toArray, List.set_cons_zero, List.set_cons_succ]
          refine takeL (i := 5) (v := (.int .i64 (k : Int))) rfl (by kernel_rfl) (by kernel_rfl) (by kernel_rfl) (fun _ _ _ h => h) rfl (by assumption) (fun w' hS' => by go_simp) ?_
          simp only [Act.put, List.setIfInBounds_toArray, List.set_cons_zero, List.set_cons_succ]
          refine takeL (i := 6) (v := (.int .i64 ((48 * k : Nat) : Int))) rfl (by kernel_rfl) (by kernel_rfl) (by kernel_rfl) (fun _ _ _ h => h) rfl (by assumption) (fun w' hS' => by go_simp) ?_
          simp only [Act.put, List.setIfInBounds_toArray, List.set_cons_zero, List.set_cons_succ]
          refine takeL (i := 7) (v := (.int .i64 (j : Int))) rfl (by kernel_rfl) (by kernel_rfl) (by kernel_rfl) (fun _ _ _ h => h) rfl (by assumption) (fun w' hS' => by go_simp) ?_
          simp only [Act.put, List.setIfInBounds_toArray, List.set_cons_zero, List.set_cons_succ]
          refine takeL (i := 8) (v := (.int .i64 ((48 * k + j : Nat) : Int))) rfl (by kernel_rfl) (by kernel_rfl) (by kernel_rfl) (fun _ _ _ h => h) rfl (by assumption) (fun w' hS' => by go_simp) ?_
          simp only [Act.put, List.setIfInBounds_toArray, List.set_cons_zero, List.set_cons_succ]
          refine takeL (i := 9) (v := (.pointer (some ⟨bq, oq + (48 * k + j), none⟩))) rfl (by kernel_rfl) (by kernel_rfl) (by kernel_rfl) (fun _ _ _ h => h) rfl (by assumption) (fun w' _ => run_index_slice w' 25 5 _ _ (by rfl) Tryd.underlying25 1 sz_u8 bq oq 384 cq (by rfl) .i64 (48 * k + j) (by rfl) (by omega) _ (by omega)) ?_
          simp only [Act.put, List.setIfInBounds_toArray, List.set_cons_zero, List.set_cons_succ]
          refine takeL (i := 10) (v := (.int .u8 y)) rfl (by kernel_rfl) (by kernel_rfl) (by kernel_rfl) (fun _ _ _ h => h) rfl (by assumption) (fun w' hS' => run_load_cell w' 5 _ (by rfl) ⟨bq, oq + (48 * k + j), none⟩ (by rfl) _ hS'.2 _ Tryd.underlying5 rfl) ?_
          simp only [Act.put, List.setIfInBounds_toArray, List.set_cons_zero, List.set_cons_succ]
          refine takeL (i := 11) (v := (.pointer (some ⟨w.heap.size + 1, 0, none⟩))) rfl (by kernel_rfl) (by kernel_rfl) (by kernel_rfl) (fun _ _ _ h => h) rfl (by assumption) (fun w' hS' => by go_simp) ?_
          simp only [Act.put, List.setIfInBounds_toArray, List.set_cons_zero, List.set_cons_succ]
          refine takeL (i := 12) (v := (.pointer (some ⟨w.heap.size + 1, k * 48, none⟩))) rfl (by kernel_rfl) (by kernel_rfl) (by kernel_rfl) (fun _ _ _ h => h) rfl (by assumption) (fun w' hS' => by go_simp) ?_
          simp only [Act.put, List.setIfInBounds_toArray, List.set_cons_zero, List.set_cons_succ]
          refine takeL (i := 13) (v := (.pointer (some ⟨w.heap.size + 1, k * 48 + j, none⟩))) rfl (by kernel_rfl) (by kernel_rfl) (by kernel_rfl) (fun _ _ _ h => h) rfl (by assumption) (fun w' hS' => by go_simp) ?_
          simp only [Act.put, List.setIfInBounds_toArray, List.set_cons_zero, List.set_cons_succ]
          refine oneL (i := 14) rfl (by kernel_rfl) rfl (wp_rq1 5 _ _ rfl (48 * k + j) (by rw [Nat.mul_comm 48 k]; rfl) (.int .u8 y) rfl y rfl sz_u8 hS2 rfl (by omega) (by rw [hye.out]; rfl) (fun W1 hS3 hA => ?_))
          refine ⟨⟨(World.cell?_of_block (w := { wr with drawn := wr.drawn + 1 }) (hA.block gp hgs (by omega))).trans hTT.1, (World.cell?_of_block (w := { wr with drawn := wr.drawn + 1 }) (hA.block bq hbs (by omega))).trans hTT.2⟩, ?_⟩
          simp only [Act.put, List.setIfInBounds_toArray, List.set_cons_zero, List.set_cons_succ]
          refine wpAnyH_done (by kernel_rfl) ?_ _
          refine hK _ _ ?_
          clear hK K hS hTT hA hS2 hye hcq' hcell'
          have hS := Lib.hid hS3
          clear hS3
          go_wp2
          first
            | exact ⟨⟨j + 1, by omega, by go_num, hS.out⟩, by simp [intOf]; omega⟩
            | (refine ⟨?_, by simp [intOf]; omega⟩
               (repeat apply Exists.intro)
               exact ⟨⟨j + 1, by omega, by go_num, hS.out⟩, rfl⟩)
        · have e : j = 48 := by omega
          subst e
          clear hlj hj
          have hS3 : RqS w.heap.size 432 kdCommittee 92 (48 * (k + 1)) (rdCommittee l) gp cp (cutL [384, 48] l) w wr := hS.out
          clear hS
          have hS := Lib.hid hS3
          clear hS3
          go_wp2
          first
            | exact ⟨⟨k + 1, by omega, by go_num, hS.out⟩, by simp [intOf]; omega⟩
            | (refine ⟨?_, by simp [intOf]; omega⟩
               (repeat apply Exists.intro)
               exact ⟨⟨k + 1, by omega, by go_num, hS.out⟩, rfl⟩)
    · have e : k = 8 := by omega
      subst e
      clear hlt hk
      go_wp2
      rename_i wr0
      go_loopw [9] (fun i wr => ∃ j : Nat, j ≤ 48 ∧ i = .int .i64 (j : Int) ∧ RqS w.heap.size 432 kdCommittee 92 (384 + j) (rdCommittee l) gp cp (cutL [384, 48] l) w wr) (fun i _ => 48 - (intOf i).toNat)
      case atStart => exact ⟨0, by omega, rfl, hS.out⟩
      case round =>
        obtain ⟨j, hj, rfl, hS1⟩ := hrel
        clear hS
        have hS := Lib.hid hS1
        clear hS1
        by_cases hlt : j < 48
        · have lj : (j : Int) < 48 := by omega
          go_wp2_with (first
            | ((with_reducible refine at_iaddr 157 ?_); refine wpList_value (by rfl) _ (run_index_slice _ 157 25 _ _ rfl Tryd.underlying157 1 sz_bs gp 0 2 cp rfl .i64 1 rfl (by decide) 1 (by decide)) ?_)
            | ((with_reducible refine at_load 25 ?_); refine at_ldaddr 25 gp 1 rfl ?_
               obtain ⟨q, hqe1⟩ : ∃ q, q = (l.drop 384).take 48 := ⟨_, rfl⟩
               have hql1 : q.length = 48 := by rw [hqe1]; exact part_len l 384 48 432 hkl.out (by decide)
               obtain ⟨vq, cq, hcq, hq1⟩ := hS.out.part 1 48 q (by rw [cutL_length]; decide) (by rw [hqe1]; exact part_at [384, 48] l 1 384 48 (by decide) (by decide) rfl rfl) hql1
               have hqe := Lib.hid hqe1
               have hql := Lib.hid hql1
               clear hqe1 hql1
               obtain ⟨bq, oq, e0, hcell1⟩ := hq1.row.cell j (by rw [hql.out]; exact hlt)
               subst e0
               obtain ⟨y, hye1⟩ : ∃ y, y = q.getD j 0 := ⟨_, rfl⟩
               rw [← hye1] at hcell1
               have hcell := Lib.hid hcell1
               have hye := Lib.hid hye1
               clear hcell1 hye1
               refine wpList_value (by rfl) _ (run_load_cell _ 25 _ (by rfl) ⟨gp, 1, none⟩ rfl (.slice (some ⟨bq, oq, none⟩) 48 cq) hcq _ Tryd.underlying25 rfl) ?_
               have hq := Lib.hid hq1
               clear hq1 hcq)
            | ((with_reducible refine at_iaddr 25 ?_); go_loud (refine wpList_value (by rfl) _ (run_index_slice _ 25 5 _ _ rfl Tryd.underlying25 1 sz_u8 bq oq 48 cq rfl .i64 j rfl hlt (oq + j) (by omega)) ?_))
            | ((with_reducible refine at_load 5 ?_); go_loud (refine wpList_value (by rfl) _ (run_load_cell _ 5 _ (by rfl) ⟨bq, oq + j, none⟩ rfl (.int .u8 y) hcell.out _ Tryd.underlying5 rfl) ?_))
            | ((with_reducible refine at_store 5 ?_); go_loud (refine wpList_rq1 rfl 5 _ _ rfl (384 + j) rfl (.int .u8 y) rfl y rfl sz_u8 hS.out rfl (by omega) (by rw [hye.out, hqe.out, drop_take_get _ _ _ _ hlt]; rfl) (fun W1 hS1 => ?_))
               obtain ⟨W, hWW⟩ : ∃ W, W = W1 := ⟨_, rfl⟩
               subst hWW
               clear hqe hql hye hcell hq
               clear hS
               have hS := Lib.hid hS1
               clear hS1))
          first
            | exact ⟨⟨j + 1, by omega, by go_num, hS.out⟩, by simp [intOf]; omega⟩
            | (refine ⟨?_, by simp [intOf]; omega⟩
               (repeat apply Exists.intro)
               exact ⟨⟨j + 1, by omega, by go_num, hS.out⟩, rfl⟩)
        · have e : j = 48 := by omega
          subst e
          clear hlt hj
          go_wp2_with (first
            | ((with_reducible refine at_load 92 ?_); go_loud (refine wpList_value (by rfl) _ (run_load_box _ 92 _ (by rfl) (w.heap.size + 1) (by rfl) _ _ (0, 0) _ hS.out.res Tryd.underlying92 rfl (by rw [row_size rowCommittee]; simp [fcells])) ?_))
            | ((with_reducible refine at_store 92 ?_); refine at_staddr 92 w.heap.size 0 rfl ?_; go_loud (refine wpList_store_row_gen (w0 := w) (n0 := w.heap.size) 92 _ _ rfl rfl w.heap.size rfl _ rfl (fcells_one _ _ _) (by rw [row_size rowCommittee]; simp [fcells]) _ 92 hS.out.hR (by simp [fcells]) (by omega) hS.out.hB (fun W9 hW9 hBW _ => ?_))))
          exact ret_mid_tmp rfl w.heap.size 0 (fcells 432 kdCommittee (rdCommittee l)) _ rfl hW9 Tryd.underlying92 rfl (by rw [row_size rowCommittee, fcells_length]) rfl ⟨rfl, hBW⟩
set_option maxHeartbeats 16000000 in
theorem rreadCommittee_bad (l : List Int) (va : Option Addr) (c : Nat) (w : World) (hs0 : SlB va c l w) (hne0 : l.length ≠ 432) :
    Calls Tryd.prog 57 #[.slice va l.length c] w fun e w' => e = .returned (.tuple #[.agg (fcells 432 kdCommittee (fun _ => 0)).toArray, .int .i64 4]) ∧ Below w.heap.size w w' := by
  have hsl := Lib.hid hs0
  have hne := Lib.hid (show l.length ≠ headN [384, 48] from hne0)
  clear hne0
  clear hs0
  go_enter Tryd.func57, Tryd.ntmps57
  go_wp2_with (first
    | ((with_reducible refine at_alloc 92 ?_); refine wpList_plain rfl fun K hK => wp_alloc_row 92 rfl 2 rfl _ 432 infoCommittee (hK _ _ ?_); clear hK K)
    | ((with_reducible refine at_alloc 92 ?_); refine wpList_plain rfl fun K hK => wp_alloc_row 92 rfl 4 rfl _ 432 infoCommittee (hK _ _ ?_); clear hK K
       refine gen_l (fun W => RqB w.heap.size 432 kdCommittee 92 432 (fun _ => 0) w W) (RqB.begin0 rfl rfl) ?_
       intro W hS1
       have hl := Lib.hid (hsl.out.later hS1.hB)
       have hS := Lib.hid hS1
       clear hS1)
    | ((with_reducible refine (RqB.cutBad hS.out (K := 2) [384, 48] ?hV rfl (by decide) (by decide) (by decide) hne.out).mono ?hM)
       case hV => rfl
       rintro e W ⟨rfl, hS1⟩
       clear hl
       clear hS
       have hS := Lib.hid hS1
       clear hS1)
    | ((with_reducible refine at_load 92 ?_); go_loud (refine wpList_value (by rfl) _ (run_load_box _ 92 _ (by rfl) (w.heap.size + 1) (by rfl) _ _ (0, 0) _ hS.out.res Tryd.underlying92 rfl (by rw [row_size rowCommittee]; simp [fcells])) ?_))
    | ((with_reducible refine at_store 92 ?_); refine at_staddr 92 w.heap.size 0 rfl ?_; go_loud (refine wpList_store_row_gen (w0 := w) (n0 := w.heap.size) 92 _ _ rfl rfl w.heap.size rfl _ rfl (fcells_one _ _ _) (by rw [row_size rowCommittee]; simp [fcells]) _ 92 hS.out.hR (by simp [fcells]) (by omega) hS.out.hB (fun W9 hW9 hBW _ => ?_))))
  exact ret_mid_tmp rfl w.heap.size 0 (fcells 432 kdCommittee (fun _ => 0)) _ rfl hW9 Tryd.underlying92 rfl (by rw [row_size rowCommittee, fcells_length]) rfl ⟨rfl, hBW⟩
end Go.Proofs.YtmoofccblbaepaaDoor
