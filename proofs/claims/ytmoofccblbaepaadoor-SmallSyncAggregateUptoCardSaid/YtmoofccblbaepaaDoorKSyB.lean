import Derived.Test.YtmoofccblbaepaaDoorKSyA
set_option linter.unusedVariables false
set_option linter.unusedSimpArgs false
set_option linter.unnecessarySimpa false
/- The sync aggregate: reading, the program's. -/
namespace Go.Proofs.YtmoofccblbaepaaDoor
open Go.RowKit BigFrame
set_option maxRecDepth 100000
/-- What the bytes are read as. -/
def rdSyncAggregate (l : List Int) (k : Nat) : Int := if k < 8 then bitV (l.getD 0 0) k else l.getD (1 + (k - 8)) 0
theorem infoSyncAggregate : (Tryd.prog.info? 120).map (fun i => (i.zero, i.size)) = some (some (.agg (fcells 104 kdSyncAggregate fun _ => 0).toArray), 104) := by kernel_rfl
theorem builtSyncAggregate (w : World) : (Instr.build 120 #[]).run Tryd.prog w = .ok (.agg (fcells 104 kdSyncAggregate fun _ => 0).toArray) w := by kernel_rfl
theorem ok_get {q : List Int} {i : Nat} {k : CK} (h : ∀ m ∈ q, k.ok m) (hi : i < q.length) : k.ok (q.getD i 0) := by
  have e : q.getD i 0 = q[i]'hi := by simp [List.getD, hi]
  rw [e]
  exact h _ (List.getElem_mem hi)
section
variable {n : Nat} {t : TypeId} {l : List Int} {va : Option Addr} {c p err m : Nat} {r : Nat → Int} {w W W' : World}
theorem take_cells (y : Int) : takeC y 8 = (fcells 8 (fun _ => CK.bool) (bitV y)).toArray := by
  unfold takeC
  rw [fcells_congr (g := bitV y) fun j hj => if_pos hj]
theorem wp_copy_bits {o : Oper} {a : Act} {K : Act → World → Prop} {Q : Exit → Act → World → Prop} (d s : Operand) (ho : o.op = .call { callee := .builtin .copy, args := #[d, s], argTypes := #[184, 184] }) (g dCap c' : Nat) (y : Int) (hd : a.eval d = .slice (some ⟨n + 1, 0, none⟩) 8 dCap) (hs : a.eval s = .slice (some ⟨g, 0, none⟩) 8 c')
    (h : RdS n 104 kdSyncAggregate t l va c p err 0 r w W) (hg : W.heap[g]? = some (.cells (takeC y 8) 4 (0, 0))) (hr : err = 0 → ∀ j, j < 8 → bitV y j = r j)
    (h2 : ∀ W', RdS n 104 kdSyncAggregate t l va c p err 8 r w W' → K (a.put o.dst (goInt 8)) W') : o.wp Tryd.prog a W K Q := by
  obtain ⟨g0, h1, h3⟩ := h.hX
  rw [take_cells] at hg
  have hcs : (fcells 8 (fun _ => .bool) (bitV y)).length = 8 := fcells_length _ _ _
  refine wp_copy_gen d s 184 184 ho 4 Tryd.underlying184 sz_bool (n + 1) 0 g 0 8 dCap 8 c' hd hs _ t h1 (fcells 8 (fun _ => .bool) (bitV y)) (by rw [hcs]; rfl) (range_whole hg) (by rw [hcs]; simp [fcells]) fcells_mem (fun W' hC hA => ?_)
  rw [hcs]
  have e2 : (splice (fcells 104 kdSyncAggregate g0).toArray.toList 0 (fcells 8 (fun _ => .bool) (bitV y))).toArray = _ := splice_f (kd' := fun _ => .bool) (fun j hj => by unfold kdSyncAggregate; rw [if_pos (by omega)]) (by decide)
  rw [e2] at hC
  refine h2 W' (h.box hA _ hC fun e i hi => ?_)
  rw [if_pos (by omega), Nat.sub_zero]
  exact hr e i hi
theorem RdS.failE {N : Nat} {kd : Nat → CK} (h : RdS n N kd t l va c p err m r w W) :
    Calls Tryd.prog 105 #[.pointer (some ⟨n + 1 + 1, 0, none⟩), .int .i64 0] W fun e w' => e = .returned (.tuple #[]) ∧ RdS n N kd t l va c p err m r w w' := by
  obtain ⟨at', hI, hp⟩ := h.hI
  refine (in_fail (n + 1 + 1) l va c at' err 0 W hI).mono fun _ _ ⟨h1, h2, h3⟩ => ⟨h1, ?_⟩
  have e : (if err = 0 then 0 else err) = err := by split <;> omega
  rw [e] at h2
  exact h.step h3 ⟨_, h2, hp⟩ id
end
set_option maxHeartbeats 16000000 in
theorem readSyncAggregate_ok (l : List Int) (va : Option Addr) (c : Nat) (w : World) (hrow0 : Row w va .u8 l) (hcap : l.length ≤ c) (hnil0 : va = none → c = 0) (hlow0 : ∀ ad, va = some ad → ad.block < w.heap.size) (hkl0 : l.length = 97) :
    Calls Tryd.prog 74 #[.slice va 97 c] w fun e w' => e = .returned (.tuple #[.agg (fcells 104 kdSyncAggregate (rdSyncAggregate l)).toArray, .int .i64 0]) ∧ Below w.heap.size w w' := by
  have hrow := Lib.hid hrow0
  have hnil := Lib.hid hnil0
  have hlow := Lib.hid hlow0
  have hkl := Lib.hid hkl0
  have hfew : l.length ≤ 70368744177664 := by rw [hkl0]; decide
  clear hkl0
  clear hrow0 hnil0 hlow0
  go_enter Tryd.func74, Tryd.ntmps74
  go_wp2_with (first
    | ((with_reducible refine at_alloc 120 ?_); refine wpList_plain rfl fun K hK => wp_alloc_row 120 rfl 2 rfl _ 104 infoSyncAggregate (hK _ _ ?_); clear hK K)
    | ((with_reducible refine at_alloc 120 ?_); refine wpList_plain rfl fun K hK => wp_alloc_row 120 rfl 4 rfl _ 104 infoSyncAggregate (hK _ _ ?_); clear hK K)
    | ((with_reducible refine (RdS.open (N := 104) (kd := kdSyncAggregate) (r := rdSyncAggregate l) rfl 97 97 (97 : Int) rfl hkl.out (err := 0) rfl (by decide) hrow.out hcap hnil.out hlow.out hfew).mono ?_)
       rintro e W ⟨rfl, hS1⟩
       have hS := Lib.hid hS1
       clear hS1)
    | ((with_reducible refine (RdS.bytesC hS.out 1 (1 : Int) rfl (by decide) (by decide) (fun _ => by rw [hkl.out]; decide)).mono ?_)
       rintro e W ⟨b, o', c', q, rfl, hcc, hbl, hrw, hql, hq0, hS1⟩
       obtain ⟨b2, o2, e0, hcell0⟩ := hrw.cell 0 (by omega)
       cases e0
       obtain ⟨y, hye0⟩ : ∃ y, y = q.getD 0 0 := ⟨_, rfl⟩
       have hyo : CK.ok .u8 y := by rw [hye0]; exact ok_get hrw.ok (by omega)
       rw [← hye0] at hcell0
       have hye := Lib.hid hye0
       have hcell := Lib.hid hcell0
       have hq := Lib.hid hq0
       have hy0 := Lib.hid hyo.1
       have hy1 := Lib.hid hyo.2
       clear hcc hbl hrw hql hq0 hye0 hcell0 hyo
       clear hS
       have hS := Lib.hid hS1
       clear hS1)
    | ((with_reducible refine (readVector_any y b o' c' _ hy0.out hy1.out hcell.out).mono ?_)
       rintro e W1 ⟨rfl, hC, hb⟩
       have hV := Lib.hid hC
       have hS1 := hS.out.later hb
       clear hC hb hcell
       clear hS
       have hS := Lib.hid hS1
       clear hS1)
    | ((with_reducible refine at_call_builtin .copy ?_); go_loud (refine wpList_plain rfl fun K hK => wp_copy_bits _ _ rfl _ 8 8 y rfl rfl hS.out hV.out (fun e j hj => by unfold rdSyncAggregate; rw [if_pos hj, hye.out, hq.out (by trivial), drop_take_get _ _ _ _ (by decide)]) (fun W hS2 => hK _ _ ?_)); clear hK K
       clear hS hV hq hye
       have hS := Lib.hid hS2
       clear hS2
       generalize goInt 8 = gi)
    | ((with_reducible refine (RdS.failE hS.out).mono ?_)
       rintro e W ⟨rfl, hS1⟩
       clear hS
       have hS := Lib.hid hS1
       clear hS1))
  rename_i K hK
  refine wp_region_held (S := fun _ => True) (by kernel_rfl) ?_
  have hTT : True := trivial
  refine takeL (i := 0) (v := (.pointer (some ⟨w.heap.size + 1, 8, none⟩))) rfl (by kernel_rfl) (by kernel_rfl) (by kernel_rfl) (fun _ _ _ h => h) rfl (by assumption) (fun w' hS' => by go_simp) ?_
  simp only [Act.put, List.setIfInBounds_toArray, List.set_cons_zero, List.set_cons_succ]
  refine takeL (i := 1) (v := (.slice (some ⟨w.heap.size + 1, 8, none⟩) 96 96)) rfl (by kernel_rfl) (by kernel_rfl) (by kernel_rfl) (fun _ _ _ h => h) rfl (by assumption) (fun w' hS' => by go_simp) ?_
  simp only [Act.put, List.setIfInBounds_toArray, List.set_cons_zero, List.set_cons_succ]
  refine takeL (i := 2) (v := (.pointer (some ⟨w.heap.size + 1 + 1, 0, none⟩))) rfl (by kernel_rfl) (by kernel_rfl) (by kernel_rfl) (fun _ _ _ h => h) rfl (by assumption) (fun w' hS' => by go_simp) ?_
  simp only [Act.put, List.setIfInBounds_toArray, List.set_cons_zero, List.set_cons_succ]
  refine oneL (i := 3) rfl (by kernel_rfl) rfl (wp_callE 102 #[.pointer (some ⟨w.heap.size + 1 + 1, 0, none⟩), .int .i64 96] (by go_simp) _ ((hS.out.drew _).bytesE 96 (96 : Int) rfl (by decide) (by decide) (fun _ => by rw [hkl.out]; decide)) ?_)
  rintro v W ⟨b, o', c', q, rfl, hcc, hbl, hrw, hql, hq, hS1⟩
  refine ⟨trivial, ?_⟩
  simp only [Act.put, List.setIfInBounds_toArray, List.set_cons_zero, List.set_cons_succ]
  refine oneL (i := 4) rfl (by kernel_rfl) rfl (wp_copy_rd _ _ rfl 8 96 b o' c' 96 rfl rfl hS1 q hrw hql rfl (kdY 96) (by decide) (fun e j hj => by rw [hq (by trivial), drop_take_get _ _ _ _ hj]; unfold rdSyncAggregate; rw [if_neg (by omega)]; congr 1 <;> omega) (fun W hS2 => ⟨trivial, ?_⟩))
  refine wpAnyH_done (by kernel_rfl) ?_ _
  refine hK _ _ ?_
  clear hK K hS hTT hrw hcc hbl hq hql hS1
  have hS := Lib.hid hS2
  clear hS2
  generalize goInt 96 = gi
  simp only [Act.put, List.setIfInBounds_toArray, List.set_cons_zero, List.set_cons_succ]
  go_wp2_with (first
    | ((with_reducible refine at_load 31 ?_); go_loud (refine wpList_value (by rfl) _ (run_load_cell _ 31 _ (by rfl) ⟨w.heap.size + 1 + 1, 4, none⟩ rfl (.int .i64 0) hS.out.errno _ Tryd.underlying31 rfl) ?_))
    | ((with_reducible refine at_load 120 ?_); go_loud (refine wpList_value (by rfl) _ (run_load_box _ 120 _ (by rfl) (w.heap.size + 1) (by rfl) _ _ (0, 0) _ hS.out.res Tryd.underlying120 rfl (by rw [row_size rowSyncAggregate]; simp [fcells])) ?_))
    | ((with_reducible refine at_store 120 ?_); refine at_staddr 120 w.heap.size 0 rfl ?_; go_loud (refine wpList_store_row_gen (w0 := w) (n0 := w.heap.size) 120 _ _ rfl rfl w.heap.size rfl _ rfl (fcells_one _ _ _) (by rw [row_size rowSyncAggregate]; simp [fcells]) _ 120 hS.out.hR (by simp [fcells]) (by omega) hS.out.hB (fun W9 hW9 hBW _ => ?_))))
  exact ret_mid_tmp rfl w.heap.size 0 (fcells 104 kdSyncAggregate (rdSyncAggregate l)) _ rfl hW9 Tryd.underlying120 rfl (by rw [row_size rowSyncAggregate, fcells_length]) rfl ⟨rfl, hBW⟩
set_option maxHeartbeats 16000000 in
theorem readSyncAggregate_bad (l : List Int) (va : Option Addr) (c : Nat) (w : World) (hrow0 : Row w va .u8 l) (hcap : l.length ≤ c) (hnil0 : va = none → c = 0) (hlow0 : ∀ ad, va = some ad → ad.block < w.heap.size) (hne0 : l.length ≠ 97) (hfew : l.length ≤ 70368744177664) :
    Calls Tryd.prog 74 #[.slice va l.length c] w fun e w' => e = .returned (.tuple #[.agg (fcells 104 kdSyncAggregate (fun _ => 0)).toArray, .int .i64 4]) ∧ Below w.heap.size w w' := by
  have hrow := Lib.hid hrow0
  have hnil := Lib.hid hnil0
  have hlow := Lib.hid hlow0
  have hkl := Lib.hid (rfl : l.length = l.length)
  have hne := hne0
  clear hne0
  clear hrow0 hnil0 hlow0
  go_enter Tryd.func74, Tryd.ntmps74
  go_wp2_with (first
    | ((with_reducible refine at_alloc 120 ?_); refine wpList_plain rfl fun K hK => wp_alloc_row 120 rfl 2 rfl _ 104 infoSyncAggregate (hK _ _ ?_); clear hK K)
    | ((with_reducible refine at_alloc 120 ?_); refine wpList_plain rfl fun K hK => wp_alloc_row 120 rfl 4 rfl _ 104 infoSyncAggregate (hK _ _ ?_); clear hK K)
    | ((with_reducible refine (RdS.open (N := 104) (kd := kdSyncAggregate) (r := rdSyncAggregate l) rfl l.length 97 (97 : Int) rfl hkl.out (err := 4) (if_neg hne) (by decide) hrow.out hcap hnil.out hlow.out hfew).mono ?_)
       rintro e W ⟨rfl, hS1⟩
       have hS := Lib.hid hS1
       clear hS1)
    | ((with_reducible refine (RdS.bytesC hS.out 1 (1 : Int) rfl (by decide) (by decide) (fun e => absurd e (by decide))).mono ?_)
       rintro e W ⟨b, o', c', q, rfl, hcc, hbl, hrw, hql, hq0, hS1⟩
       obtain ⟨b2, o2, e0, hcell0⟩ := hrw.cell 0 (by omega)
       cases e0
       obtain ⟨y, hye0⟩ : ∃ y, y = q.getD 0 0 := ⟨_, rfl⟩
       have hyo : CK.ok .u8 y := by rw [hye0]; exact ok_get hrw.ok (by omega)
       rw [← hye0] at hcell0
       have hye := Lib.hid hye0
       have hcell := Lib.hid hcell0
       have hq := Lib.hid hq0
       have hy0 := Lib.hid hyo.1
       have hy1 := Lib.hid hyo.2
       clear hcc hbl hrw hql hq0 hye0 hcell0 hyo
       clear hS
       have hS := Lib.hid hS1
       clear hS1)
    | ((with_reducible refine (readVector_any y b o' c' _ hy0.out hy1.out hcell.out).mono ?_)
       rintro e W1 ⟨rfl, hC, hb⟩
       have hV := Lib.hid hC
       have hS1 := hS.out.later hb
       clear hC hb hcell
       clear hS
       have hS := Lib.hid hS1
       clear hS1)
    | ((with_reducible refine at_call_builtin .copy ?_); go_loud (refine wpList_plain rfl fun K hK => wp_copy_bits _ _ rfl _ 8 8 y rfl rfl (hS.out.any (m' := 0) (by decide)) hV.out (fun e => absurd e (by decide)) (fun W hS2 => hK _ _ ?_)); clear hK K
       clear hS hV hq hye
       have hS := Lib.hid hS2
       clear hS2
       generalize goInt 8 = gi)
    | ((with_reducible refine (RdS.failE hS.out).mono ?_)
       rintro e W ⟨rfl, hS1⟩
       clear hS
       have hS := Lib.hid hS1
       clear hS1))
  rename_i K hK
  refine wp_region_held (S := fun _ => True) (by kernel_rfl) ?_
  have hTT : True := trivial
  refine takeL (i := 0) (v := (.pointer (some ⟨w.heap.size + 1, 8, none⟩))) rfl (by kernel_rfl) (by kernel_rfl) (by kernel_rfl) (fun _ _ _ h => h) rfl (by assumption) (fun w' hS' => by go_simp) ?_
  simp only [Act.put, List.setIfInBounds_toArray, List.set_cons_zero, List.set_cons_succ]
  refine takeL (i := 1) (v := (.slice (some ⟨w.heap.size + 1, 8, none⟩) 96 96)) rfl (by kernel_rfl) (by kernel_rfl) (by kernel_rfl) (fun _ _ _ h => h) rfl (by assumption) (fun w' hS' => by go_simp) ?_
  simp only [Act.put, List.setIfInBounds_toArray, List.set_cons_zero, List.set_cons_succ]
  refine takeL (i := 2) (v := (.pointer (some ⟨w.heap.size + 1 + 1, 0, none⟩))) rfl (by kernel_rfl) (by kernel_rfl) (by kernel_rfl) (fun _ _ _ h => h) rfl (by assumption) (fun w' hS' => by go_simp) ?_
  simp only [Act.put, List.setIfInBounds_toArray, List.set_cons_zero, List.set_cons_succ]
  refine oneL (i := 3) rfl (by kernel_rfl) rfl (wp_callE 102 #[.pointer (some ⟨w.heap.size + 1 + 1, 0, none⟩), .int .i64 96] (by go_simp) _ ((hS.out.drew _).bytesE 96 (96 : Int) rfl (by decide) (by decide) (fun e => absurd e (by decide))) ?_)
  rintro v W ⟨b, o', c', q, rfl, hcc, hbl, hrw, hql, hq, hS1⟩
  refine ⟨trivial, ?_⟩
  simp only [Act.put, List.setIfInBounds_toArray, List.set_cons_zero, List.set_cons_succ]
  refine oneL (i := 4) rfl (by kernel_rfl) rfl (wp_copy_rd _ _ rfl 8 96 b o' c' 96 rfl rfl (hS1.any (m' := 8) (by decide)) q hrw hql rfl (kdY 96) (by decide) (fun e => absurd e (by decide)) (fun W hS2 => ⟨trivial, ?_⟩))
  refine wpAnyH_done (by kernel_rfl) ?_ _
  refine hK _ _ ?_
  clear hK K hS hTT hrw hcc hbl hq hql hS1
  have hS := Lib.hid hS2
  clear hS2
  generalize goInt 96 = gi
  simp only [Act.put, List.setIfInBounds_toArray, List.set_cons_zero, List.set_cons_succ]
  go_wp2_with (first
    | ((with_reducible refine at_load 31 ?_); go_loud (refine wpList_value (by rfl) _ (run_load_cell _ 31 _ (by rfl) ⟨w.heap.size + 1 + 1, 4, none⟩ rfl (.int .i64 4) hS.out.errno _ Tryd.underlying31 rfl) ?_)))
  refine wp_region_held (S := fun w' => w'.cell? ⟨w.heap.size + 1 + 1, 4, none⟩ = some (.int .i64 4)) (by kernel_rfl) ?_
  have hTT : ({ W with drawn := W.drawn + 1 } : World).cell? ⟨w.heap.size + 1 + 1, 4, none⟩ = some (.int .i64 4) := hS.out.errno
  have hS2 := hS.out.drew (W.drawn + 1)
  have hsz := hS.out.size
  refine takeL (i := 0) (v := (.agg (fcells 104 kdSyncAggregate fun _ => 0).toArray)) rfl (by kernel_rfl) (by kernel_rfl) (by kernel_rfl) (fun _ _ _ h => h) rfl (by assumption) (fun w' _ => run_build 120 #[] (by rfl) _ (builtSyncAggregate w')) ?_
  simp only [Act.put, List.setIfInBounds_toArray, List.set_cons_zero, List.set_cons_succ]
  refine takeL (i := 1) (v := (.pointer (some ⟨w.heap.size + 1 + 1, 0, none⟩))) rfl (by kernel_rfl) (by kernel_rfl) (by kernel_rfl) (fun _ _ _ h => h) rfl (by assumption) (fun w' hS' => by go_simp) ?_
  simp only [Act.put, List.setIfInBounds_toArray, List.set_cons_zero, List.set_cons_succ]
  refine takeL (i := 2) (v := (.pointer (some ⟨w.heap.size + 1 + 1, 0, none⟩))) rfl (by kernel_rfl) (by kernel_rfl) (by kernel_rfl) (fun _ _ _ h => h) rfl (by assumption) (fun w' hS' => by go_simp) ?_
  simp only [Act.put, List.setIfInBounds_toArray, List.set_cons_zero, List.set_cons_succ]
  refine takeL (i := 3) (v := (.pointer (some ⟨w.heap.size + 1 + 1, 4, none⟩))) rfl (by kernel_rfl) (by kernel_rfl) (by kernel_rfl) (fun _ _ _ h => h) rfl (by assumption) (fun w' hS' => by go_simp) ?_
  simp only [Act.put, List.setIfInBounds_toArray, List.set_cons_zero, List.set_cons_succ]
  refine takeL (i := 4) (v := (.int .i64 4)) rfl (by kernel_rfl) (by kernel_rfl) (by kernel_rfl) (fun _ _ _ h => h) rfl (by assumption) (fun w' hS' => run_load_cell w' 31 _ (by rfl) ⟨w.heap.size + 1 + 1, 4, none⟩ (by rfl) _ hS' _ Tryd.underlying31 rfl) ?_
  simp only [Act.put, List.setIfInBounds_toArray, List.set_cons_zero, List.set_cons_succ]
  refine oneL (i := 5) rfl (by kernel_rfl) rfl (wp_store_row 120 _ _ rfl w.heap.size rfl _ rfl (fcells_one _ _ _) (by rw [row_size rowSyncAggregate]; simp [fcells]) _ 120 hS2.hR (by simp [fcells]) (fun W4 hC4 hA4 => ?_))
  have hTT : W4.cell? ⟨w.heap.size + 1 + 1, 4, none⟩ = some (.int .i64 4) := (World.cell?_of_block (w := { W with drawn := W.drawn + 1 }) (hA4.block (w.heap.size + 1 + 1) (show w.heap.size + 1 + 1 < W.heap.size by omega) (show w.heap.size + 1 + 1 ≠ w.heap.size by omega))).trans hS2.errno
  refine ⟨hTT, ?_⟩
  simp only [Act.put, List.setIfInBounds_toArray, List.set_cons_zero, List.set_cons_succ]
  refine takeL (i := 6) (v := (.int .i64 4)) rfl (by kernel_rfl) (by kernel_rfl) (by kernel_rfl) (fun _ _ _ h => h) rfl (by assumption) (fun w' hS' => by go_simp) ?_
  simp only [Act.put, List.setIfInBounds_toArray, List.set_cons_zero, List.set_cons_succ]
  refine wpAnyH_done (by kernel_rfl) ?_ _
  have hB4 := hA4.below hS2.hB (Nat.le_refl _) (show w.heap.size ≤ W.heap.size by omega)
  clear hS hS2 hA4 hTT
  go_wp2
  exact ret_mid_tmp rfl w.heap.size 0 (fcells 104 kdSyncAggregate fun _ => 0) _ rfl (range_whole hC4) Tryd.underlying120 rfl (by rw [row_size rowSyncAggregate, fcells_length]) rfl ⟨rfl, hB4⟩
end Go.Proofs.YtmoofccblbaepaaDoor
