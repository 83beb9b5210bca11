/- The second loop of the law CommBits: those of a and b together are those of c. -/
import Derived.Test.YtfnjcpopadpmbaaDoorJCbC
set_option linter.unusedVariables false
set_option linter.unusedSimpArgs false
set_option linter.unnecessarySimpa false
namespace Go.Proofs.YtfnjcpopadpmbaaDoor
open Go.RowKit BigFrame
set_option maxRecDepth 100000
def ldC (v0 v1 v2 v4 va vb vc i k v13 : Value) (u : Nat → Value) : Act := { tmps := #[v0, v1, v2, u 3, v4, u 5, u 6, u 7, u 8, u 9, u 10, u 11, u 12, v13, u 14, u 15, va, vb, u 18, vc, u 20, i, k, u 23, u 24, u 25, u 26, u 27, u 28, u 29, u 30, u 31, u 32, u 33, u 34, u 35, u 36, u 37, u 38, u 39, u 40, u 41, u 42, u 43, u 44, u 45, u 46, u 47, u 48, u 49, u 50, u 51, u 52, u 53, u 54, u 55, u 56, u 57, u 58, u 59, u 60, u 61, u 62, u 63, u 64, u 65, u 66, u 67, u 68, u 69, u 70, u 71, u 72, u 73, u 74, u 75, u 76, u 77, u 78, u 79, u 80, u 81, u 82, u 83, u 84, u 85, u 86, u 87, u 88, u 89, u 90, u 91, u 92, u 93, u 94, u 95, u 96, u 97, u 98, u 99, u 100, u 101, u 102, u 103, u 104, u 105, u 106, u 107, u 108, u 109, u 110, u 111, u 112, u 113, u 114, u 115, u 116, u 117, u 118, u 119, u 120, u 121, u 122, u 123, u 124, u 125, u 126, u 127, u 128, u 129, u 130, u 131, u 132, u 133, u 134, u 135, u 136, u 137, u 138, u 139, u 140, u 141, u 142, u 143, u 144, u 145, u 146, u 147, u 148, u 149, u 150, u 151, u 152, u 153, u 154, u 155, u 156, u 157, u 158, u 159, u 160, u 161, u 162, u 163, u 164, u 165, u 166, u 167, u 168, u 169, u 170, u 171, u 172, u 173, u 174, u 175, u 176, u 177, u 178, u 179, u 180, u 181, u 182, u 183, u 184, u 185, u 186, u 187, u 188, u 189, u 190, u 191], defers := [] }
noncomputable def ldBody : Code := blockIn 2 Tryd.f4
set_option maxHeartbeats 32000000 in
theorem mrg_loop {Q : Exit → Act → World → Prop} {A : Act} (v0 v1 v2 v4 v13 : Value) (ala alb alc : Option Addr) (na nb nc ca cb cc : Nat) (la lb C : List Int) (W : World) (hnc : nc ≤ 65536) (hlc : C.length = nc) (hla : la.length = na) (hlb : lb.length = nb) (hC0 : Dis C) (hab0 : (msort C).Perm (msort la ++ msort lb))
    (hra0 : RowU W ala na (msort la)) (hrb0 : RowU W alb nb (msort lb)) (hrc0 : RowU W alc nc (msort C))
    (ha : A = ldC v0 v1 v2 v4 (.slice ala na ca) (.slice alb nb cb) (.slice alc nc cc) (.int .i64 0) (.int .i64 0) v13 (fun k => A.tmps.getD k undef))
    (hQ : ∀ A' w', A' = ldC v0 v1 v2 v4 (.slice ala na ca) (.slice alb nb cb) (.slice alc nc cc) (.int .i64 (na : Int)) (A'.tmps.getD 22 undef) v13 (fun k => A'.tmps.getD k undef) → Below W.heap.size W w' → Q .normal A' w') : ldBody.wp Tryd.prog (Exit.inBlock 2 Q) A W := by
  rw [ha]
  generalize (fun k => A.tmps.getD k undef) = u
  clear ha A
  unfold ldC
  have hnab : na ≤ 65536 ∧ nb ≤ 65536 := by
    have := hab0.length_eq
    rw [List.length_append, msort_length, msort_length, msort_length] at this
    omega
  have gC := Lib.hid hC0
  have gra := Lib.hid hra0
  have grb := Lib.hid hrb0
  have grc := Lib.hid hrc0
  have gQ := Lib.hid hQ
  have hla' : (msort la).length = na := by rw [msort_length]; exact hla
  have hlb' : (msort lb).length = nb := by rw [msort_length]; exact hlb
  have hlc' : (msort C).length = nc := by rw [msort_length]; exact hlc
  have gst := Lib.hid (Mrg.start hab0)
  have gpa := Lib.hid (msort_pair la)
  have gpb := Lib.hid (msort_pair lb)
  have gpc := Lib.hid (msort_pair C)
  have gla := Lib.hid hla'
  have glb := Lib.hid hlb'
  have glc := Lib.hid hlc'
  have glc0 := Lib.hid hlc
  clear hC0 hab0 hra0 hrb0 hrc0 hQ hla hlb hlc hla' hlb' hlc'
  simp only [ldBody, blockIn, blockOf, Tryd.f4, reduceIte, Nat.reduceEqDiff]
  go_loopw [21, 22] (fun vi vk wr => ∃ i k : Nat, vi = .int .i64 (i : Int) ∧ vk = .int .i64 (k : Int) ∧ Mrg (msort la) (msort lb) (msort C) i k ∧ Below W.heap.size W wr) (fun _ vk _ => nc - (intOf vk).toNat)
  case atStart => exact ⟨0, 0, rfl, rfl, gst.out, Below.refl _ _⟩
  case round =>
    obtain ⟨i, k, rfl, rfl, hM, hB⟩ := hrel
    have gM := Lib.hid hM
    have gB := Lib.hid hB
    have hkc : k ≤ nc := by have := hM.kc; rw [glc.out] at this; exact this
    have hik : i ≤ k := hM.ik
    clear hM hB gst
    by_cases hlt : k < nc
    · have lk : decide ((k : Int) < (nc : Int)) = true := by simp; omega
      have wk : IntKind.i64.wrap ((k : Int) + 1) = ((k + 1 : Nat) : Int) := by rw [IntKind.wrap_i64]; omega
      have wi : IntKind.i64.wrap ((i : Int) + 1) = ((i + 1 : Nat) : Int) := by rw [IntKind.wrap_i64]; omega
      obtain ⟨gc, rfl, hy0⟩ := grc.out k hlt
      have hy : wr.cell? ⟨gc, k, none⟩ = some (.int .u64 ((msort C).getD k 0)) := (gB.out.cell (block_lt_of_cell hy0)).trans hy0
      obtain ⟨y, hyd⟩ : ∃ y, y = (msort C).getD k 0 := ⟨_, rfl⟩
      rw [← hyd] at hy
      have gyd := Lib.hid hyd
      have gy := Lib.hid hy
      have hyW : W.cell? ⟨gc, k, none⟩ = some (.int .u64 y) := by rw [hyd]; exact hy0
      clear hy hyd hy0
      have gcW : gc < W.heap.size := block_lt_of_cell hyW
      have gyW := Lib.hid hyW
      clear hyW
      by_cases hk0 : k = 0
      · have lk0 : decide ((k : Int) > 0) = false := by simp; omega
        have hnp : ¬ 0 < k := by omega
        clear hk0
        go_wp2
        refine wp_nopan ?_
        refine wp_region_held (S := fun _ => True) (by kernel_rfl) ?_
        have hS : True := trivial
        refine takeL (i := 0) (v := (.int .i64 (k : Int))) rfl (by kernel_rfl) (by kernel_rfl) (by kernel_rfl) (fun _ _ _ h => h) rfl (by assumption) (fun w' hS' => by go_simp) ?_
        simp only [Act.put, List.setIfInBounds_toArray, List.set_cons_zero, List.set_cons_succ]
        refine takeL (i := 1) (v := (.bool false)) rfl (by kernel_rfl) (by kernel_rfl) (by kernel_rfl) (fun _ _ _ h => h) rfl (by assumption) (fun w' hS' => by go_simp) ?_
        simp only [Act.put, List.setIfInBounds_toArray, List.set_cons_zero, List.set_cons_succ]
        refine takeL (i := 2) (v := (.bool false)) rfl (by kernel_rfl) (by kernel_rfl) (by kernel_rfl) (fun _ _ _ h => h) rfl (by assumption) (fun w' hS' => by go_simp) ?_
        simp only [Act.put, List.setIfInBounds_toArray, List.set_cons_zero, List.set_cons_succ]
        refine skipL (i := 3) rfl (by kernel_rfl) (by kernel_rfl) (by kernel_rfl) (fun _ _ _ h => h) rfl (by assumption) ?_
        simp only [Act.put, List.setIfInBounds_toArray, List.set_cons_zero, List.set_cons_succ]
        refine skipL (i := 4) rfl (by kernel_rfl) (by kernel_rfl) (by kernel_rfl) (fun _ _ _ h => h) rfl (by assumption) ?_
        simp only [Act.put, List.setIfInBounds_toArray, List.set_cons_zero, List.set_cons_succ]
        refine skipL (i := 5) rfl (by kernel_rfl) (by kernel_rfl) (by kernel_rfl) (fun _ _ _ h => h) rfl (by assumption) ?_
        simp only [Act.put, List.setIfInBounds_toArray, List.set_cons_zero, List.set_cons_succ]
        refine skipL (i := 6) rfl (by kernel_rfl) (by kernel_rfl) (by kernel_rfl) (fun _ _ _ h => h) rfl (by assumption) ?_
        simp only [Act.put, List.setIfInBounds_toArray, List.set_cons_zero, List.set_cons_succ]
        refine skipL (i := 7) rfl (by kernel_rfl) (by kernel_rfl) (by kernel_rfl) (fun _ _ _ h => h) rfl (by assumption) ?_
        simp only [Act.put, List.setIfInBounds_toArray, List.set_cons_zero, List.set_cons_succ]
        refine skipL (i := 8) rfl (by kernel_rfl) (by kernel_rfl) (by kernel_rfl) (fun _ _ _ h => h) rfl (by assumption) ?_
        simp only [Act.put, List.setIfInBounds_toArray, List.set_cons_zero, List.set_cons_succ]
        refine skipL (i := 9) rfl (by kernel_rfl) (by kernel_rfl) (by kernel_rfl) (fun _ _ _ h => h) rfl (by assumption) ?_
        simp only [Act.put, List.setIfInBounds_toArray, List.set_cons_zero, List.set_cons_succ]
        refine skipL (i := 10) rfl (by kernel_rfl) (by kernel_rfl) (by kernel_rfl) (fun _ _ _ h => h) rfl (by assumption) ?_
        simp only [Act.put, List.setIfInBounds_toArray, List.set_cons_zero, List.set_cons_succ]
        refine skipL (i := 11) rfl (by kernel_rfl) (by kernel_rfl) (by kernel_rfl) (fun _ _ _ h => h) rfl (by assumption) ?_
        simp only [Act.put, List.setIfInBounds_toArray, List.set_cons_zero, List.set_cons_succ]
        refine skipL (i := 12) rfl (by kernel_rfl) (by kernel_rfl) (by kernel_rfl) (fun _ _ _ h => h) rfl (by assumption) ?_
        simp only [Act.put, List.setIfInBounds_toArray, List.set_cons_zero, List.set_cons_succ]
        refine takeL (i := 13) (v := (.bool false)) rfl (by kernel_rfl) (by kernel_rfl) (by kernel_rfl) (fun _ _ _ h => h) rfl (by assumption) (fun w' hS' => by go_simp) ?_
        simp only [Act.put, List.setIfInBounds_toArray, List.set_cons_zero, List.set_cons_succ]
        refine wpAnyH_done (by kernel_rfl) ?_ _
        simp only [NoPan]
        refine gen_q (fun W' => Below W.heap.size W W') (gB.out.drew) ?_
        intro W1 hb
        have gB1 := Lib.hid hb
        clear hb hS
        have gy1 := Lib.hid (show W1.cell? ⟨gc, k, none⟩ = some (.int .u64 y) from (gB1.out.cell gcW).trans gyW.out)
        go_wp2
        by_cases hia : i < na
        · have lia : decide ((i : Int) < (na : Int)) = true := by simp; omega
          obtain ⟨ga, rfl, hx0⟩ := gra.out i hia
          have hx : W1.cell? ⟨ga, i, none⟩ = some (.int .u64 ((msort la).getD i 0)) := (gB1.out.cell (block_lt_of_cell hx0)).trans hx0
          obtain ⟨x, hxd⟩ : ∃ x, x = (msort la).getD i 0 := ⟨_, rfl⟩
          rw [← hxd] at hx
          have gxd := Lib.hid hxd
          have gx1 := Lib.hid hx
          clear hx hxd hx0
          by_cases hxy : x = y
          · have lxy : (x == y) = true := by simpa using hxy
            have hyx : y = x := hxy.symm
            subst hyx
            have gM2 := Lib.hid (gM.out.stepA (by rw [glc.out]; exact hlt) (by rw [gla.out]; exact hia) (by rw [← gxd.out, ← gyd.out]))
            refine wp_nopan ?_
            refine wp_region_held (S := fun w' => w'.cell? ⟨ga, i, none⟩ = some (.int .u64 y) ∧ w'.cell? ⟨gc, k, none⟩ = some (.int .u64 y)) (by kernel_rfl) ?_
            have hS : ({ W1 with drawn := W1.drawn + 1 } : World).cell? ⟨ga, i, none⟩ = some (.int .u64 y) ∧ ({ W1 with drawn := W1.drawn + 1 } : World).cell? ⟨gc, k, none⟩ = some (.int .u64 y) := ⟨gx1.out, gy1.out⟩
            refine takeL (i := 0) (v := (.int .i64 (i : Int))) rfl (by kernel_rfl) (by kernel_rfl) (by kernel_rfl) (fun _ _ _ h => h) rfl (by assumption) (fun w' hS' => by go_simp) ?_
            simp only [Act.put, List.setIfInBounds_toArray, List.set_cons_zero, List.set_cons_succ]
            refine takeL (i := 1) (v := (.slice (some ⟨ga, 0, none⟩) na ca)) rfl (by kernel_rfl) (by kernel_rfl) (by kernel_rfl) (fun _ _ _ h => h) rfl (by assumption) (fun w' hS' => by go_simp) ?_
            simp only [Act.put, List.setIfInBounds_toArray, List.set_cons_zero, List.set_cons_succ]
            refine takeL (i := 2) (v := (.int .i64 (na : Int))) rfl (by kernel_rfl) (by kernel_rfl) (by kernel_rfl) (fun _ _ _ h => h) rfl (by assumption) (fun w' hS' => by go_simp) ?_
            simp only [Act.put, List.setIfInBounds_toArray, List.set_cons_zero, List.set_cons_succ]
            refine takeL (i := 3) (v := (.bool true)) rfl (by kernel_rfl) (by kernel_rfl) (by kernel_rfl) (fun _ _ _ h => h) rfl (by assumption) (fun w' hS' => by go_simp) ?_
            simp only [Act.put, List.setIfInBounds_toArray, List.set_cons_zero, List.set_cons_succ]
            refine takeL (i := 4) (v := (.bool true)) rfl (by kernel_rfl) (by kernel_rfl) (by kernel_rfl) (fun _ _ _ h => h) rfl (by assumption) (fun w' hS' => by go_simp) ?_
            simp only [Act.put, List.setIfInBounds_toArray, List.set_cons_zero, List.set_cons_succ]
            refine takeL (i := 5) (v := (.slice (some ⟨ga, 0, none⟩) na ca)) rfl (by kernel_rfl) (by kernel_rfl) (by kernel_rfl) (fun _ _ _ h => h) rfl (by assumption) (fun w' hS' => by go_simp) ?_
            simp only [Act.put, List.setIfInBounds_toArray, List.set_cons_zero, List.set_cons_succ]
            refine takeL (i := 6) (v := (.int .i64 (i : Int))) rfl (by kernel_rfl) (by kernel_rfl) (by kernel_rfl) (fun _ _ _ h => h) rfl (by assumption) (fun w' hS' => by go_simp) ?_
            simp only [Act.put, List.setIfInBounds_toArray, List.set_cons_zero, List.set_cons_succ]
            refine takeL (i := 7) (v := (.pointer (some ⟨ga, i, none⟩))) rfl (by kernel_rfl) (by kernel_rfl) (by kernel_rfl) (fun _ _ _ h => h) rfl (by assumption) (fun w' hS' => run_index_slice _ 37 22 (.tmp 143) (.tmp 144) rfl Tryd.underlying37 1 sz_u64 ga 0 na ca rfl .i64 i rfl hia i (by omega)) ?_
            simp only [Act.put, List.setIfInBounds_toArray, List.set_cons_zero, List.set_cons_succ]
            refine takeL (i := 8) (v := (.int .u64 y)) rfl (by kernel_rfl) (by kernel_rfl) (by kernel_rfl) (fun _ _ _ h => h) rfl (by assumption) (fun w' hS' => run_load_cell _ 22 (.tmp 145) rfl ⟨ga, i, none⟩ rfl _ hS'.1 _ Tryd.underlying22 rfl) ?_
            simp only [Act.put, List.setIfInBounds_toArray, List.set_cons_zero, List.set_cons_succ]
            refine takeL (i := 9) (v := (.slice (some ⟨gc, 0, none⟩) nc cc)) rfl (by kernel_rfl) (by kernel_rfl) (by kernel_rfl) (fun _ _ _ h => h) rfl (by assumption) (fun w' hS' => by go_simp) ?_
            simp only [Act.put, List.setIfInBounds_toArray, List.set_cons_zero, List.set_cons_succ]
            refine takeL (i := 10) (v := (.int .i64 (k : Int))) rfl (by kernel_rfl) (by kernel_rfl) (by kernel_rfl) (fun _ _ _ h => h) rfl (by assumption) (fun w' hS' => by go_simp) ?_
            simp only [Act.put, List.setIfInBounds_toArray, List.set_cons_zero, List.set_cons_succ]
            refine takeL (i := 11) (v := (.pointer (some ⟨gc, k, none⟩))) rfl (by kernel_rfl) (by kernel_rfl) (by kernel_rfl) (fun _ _ _ h => h) rfl (by assumption) (fun w' hS' => run_index_slice _ 37 22 (.tmp 147) (.tmp 148) rfl Tryd.underlying37 1 sz_u64 gc 0 nc cc rfl .i64 k rfl hlt k (by omega)) ?_
            simp only [Act.put, List.setIfInBounds_toArray, List.set_cons_zero, List.set_cons_succ]
            refine takeL (i := 12) (v := (.int .u64 y)) rfl (by kernel_rfl) (by kernel_rfl) (by kernel_rfl) (fun _ _ _ h => h) rfl (by assumption) (fun w' hS' => run_load_cell _ 22 (.tmp 149) rfl ⟨gc, k, none⟩ rfl _ hS'.2 _ Tryd.underlying22 rfl) ?_
            simp only [Act.put, List.setIfInBounds_toArray, List.set_cons_zero, List.set_cons_succ]
            refine takeL (i := 13) (v := (.bool true)) rfl (by kernel_rfl) (by kernel_rfl) (by kernel_rfl) (fun _ _ _ h => h) rfl (by assumption) (fun w' hS' => by go_simp) ?_
            simp only [Act.put, List.setIfInBounds_toArray, List.set_cons_zero, List.set_cons_succ]
            refine takeL (i := 14) (v := (.bool true)) rfl (by kernel_rfl) (by kernel_rfl) (by kernel_rfl) (fun _ _ _ h => h) rfl (by assumption) (fun w' hS' => by go_simp) ?_
            simp only [Act.put, List.setIfInBounds_toArray, List.set_cons_zero, List.set_cons_succ]
            refine wpAnyH_done (by kernel_rfl) ?_ _
            simp only [NoPan]
            refine gen_q (fun W' => Below W.heap.size W W') (gB1.out.drew) ?_
            intro W2 hb
            have gB2 := Lib.hid hb
            clear hb hS
            go_wp2
            exact ⟨⟨i + 1, k + 1, rfl, rfl, gM2.out, gB2.out⟩, by simp [intOf]; omega⟩
          · have lxy : (x == y) = false := by simpa using hxy
            have hnx := gM.out.next gpa.out gpb.out gpc.out (by rw [glc.out]; exact hlt)
            rw [← gxd.out, ← gyd.out, glb.out] at hnx
            obtain ⟨hjb0, hzy0⟩ := hnx.resolve_left (fun h => hxy h.2)
            clear hnx
            refine wp_nopan ?_
            refine wp_region_held (S := fun w' => w'.cell? ⟨ga, i, none⟩ = some (.int .u64 x) ∧ w'.cell? ⟨gc, k, none⟩ = some (.int .u64 y)) (by kernel_rfl) ?_
            have hS : ({ W1 with drawn := W1.drawn + 1 } : World).cell? ⟨ga, i, none⟩ = some (.int .u64 x) ∧ ({ W1 with drawn := W1.drawn + 1 } : World).cell? ⟨gc, k, none⟩ = some (.int .u64 y) := ⟨gx1.out, gy1.out⟩
            refine takeL (i := 0) (v := (.int .i64 (i : Int))) rfl (by kernel_rfl) (by kernel_rfl) (by kernel_rfl) (fun _ _ _ h => h) rfl (by assumption) (fun w' hS' => by go_simp) ?_
            simp only [Act.put, List.setIfInBounds_toArray, List.set_cons_zero, List.set_cons_succ]
            refine takeL (i := 1) (v := (.slice (some ⟨ga, 0, none⟩) na ca)) rfl (by kernel_rfl) (by kernel_rfl) (by kernel_rfl) (fun _ _ _ h => h) rfl (by assumption) (fun w' hS' => by go_simp) ?_
            simp only [Act.put, List.setIfInBounds_toArray, List.set_cons_zero, List.set_cons_succ]
            refine takeL (i := 2) (v := (.int .i64 (na : Int))) rfl (by kernel_rfl) (by kernel_rfl) (by kernel_rfl) (fun _ _ _ h => h) rfl (by assumption) (fun w' hS' => by go_simp) ?_
            simp only [Act.put, List.setIfInBounds_toArray, List.set_cons_zero, List.set_cons_succ]
            refine takeL (i := 3) (v := (.bool true)) rfl (by kernel_rfl) (by kernel_rfl) (by kernel_rfl) (fun _ _ _ h => h) rfl (by assumption) (fun w' hS' => by go_simp) ?_
            simp only [Act.put, List.setIfInBounds_toArray, List.set_cons_zero, List.set_cons_succ]
            refine takeL (i := 4) (v := (.bool true)) rfl (by kernel_rfl) (by kernel_rfl) (by kernel_rfl) (fun _ _ _ h => h) rfl (by assumption) (fun w' hS' => by go_simp) ?_
            simp only [Act.put, List.setIfInBounds_toArray, List.set_cons_zero, List.set_cons_succ]
            refine takeL (i := 5) (v := (.slice (some ⟨ga, 0, none⟩) na ca)) rfl (by kernel_rfl) (by kernel_rfl) (by kernel_rfl) (fun _ _ _ h => h) rfl (by assumption) (fun w' hS' => by go_simp) ?_
            simp only [Act.put, List.setIfInBounds_toArray, List.set_cons_zero, List.set_cons_succ]
            refine takeL (i := 6) (v := (.int .i64 (i : Int))) rfl (by kernel_rfl) (by kernel_rfl) (by kernel_rfl) (fun _ _ _ h => h) rfl (by assumption) (fun w' hS' => by go_simp) ?_
            simp only [Act.put, List.setIfInBounds_toArray, List.set_cons_zero, List.set_cons_succ]
            refine takeL (i := 7) (v := (.pointer (some ⟨ga, i, none⟩))) rfl (by kernel_rfl) (by kernel_rfl) (by kernel_rfl) (fun _ _ _ h => h) rfl (by assumption) (fun w' hS' => run_index_slice _ 37 22 (.tmp 143) (.tmp 144) rfl Tryd.underlying37 1 sz_u64 ga 0 na ca rfl .i64 i rfl hia i (by omega)) ?_
            simp only [Act.put, List.setIfInBounds_toArray, List.set_cons_zero, List.set_cons_succ]
            refine takeL (i := 8) (v := (.int .u64 x)) rfl (by kernel_rfl) (by kernel_rfl) (by kernel_rfl) (fun _ _ _ h => h) rfl (by assumption) (fun w' hS' => run_load_cell _ 22 (.tmp 145) rfl ⟨ga, i, none⟩ rfl _ hS'.1 _ Tryd.underlying22 rfl) ?_
            simp only [Act.put, List.setIfInBounds_toArray, List.set_cons_zero, List.set_cons_succ]
            refine takeL (i := 9) (v := (.slice (some ⟨gc, 0, none⟩) nc cc)) rfl (by kernel_rfl) (by kernel_rfl) (by kernel_rfl) (fun _ _ _ h => h) rfl (by assumption) (fun w' hS' => by go_simp) ?_
            simp only [Act.put, List.setIfInBounds_toArray, List.set_cons_zero, List.set_cons_succ]
            refine takeL (i := 10) (v := (.int .i64 (k : Int))) rfl (by kernel_rfl) (by kernel_rfl) (by kernel_rfl) (fun _ _ _ h => h) rfl (by assumption) (fun w' hS' => by go_simp) ?_
            simp only [Act.put, List.setIfInBounds_toArray, List.set_cons_zero, List.set_cons_succ]
            refine takeL (i := 11) (v := (.pointer (some ⟨gc, k, none⟩))) rfl (by kernel_rfl) (by kernel_rfl) (by kernel_rfl) (fun _ _ _ h => h) rfl (by assumption) (fun w' hS' => run_index_slice _ 37 22 (.tmp 147) (.tmp 148) rfl Tryd.underlying37 1 sz_u64 gc 0 nc cc rfl .i64 k rfl hlt k (by omega)) ?_
            simp only [Act.put, List.setIfInBounds_toArray, List.set_cons_zero, List.set_cons_succ]
            refine takeL (i := 12) (v := (.int .u64 y)) rfl (by kernel_rfl) (by kernel_rfl) (by kernel_rfl) (fun _ _ _ h => h) rfl (by assumption) (fun w' hS' => run_load_cell _ 22 (.tmp 149) rfl ⟨gc, k, none⟩ rfl _ hS'.2 _ Tryd.underlying22 rfl) ?_
            simp only [Act.put, List.setIfInBounds_toArray, List.set_cons_zero, List.set_cons_succ]
            refine takeL (i := 13) (v := (.bool false)) rfl (by kernel_rfl) (by kernel_rfl) (by kernel_rfl) (fun _ _ _ h => h) rfl (by assumption) (fun w' hS' => by go_simp) ?_
            simp only [Act.put, List.setIfInBounds_toArray, List.set_cons_zero, List.set_cons_succ]
            refine takeL (i := 14) (v := (.bool false)) rfl (by kernel_rfl) (by kernel_rfl) (by kernel_rfl) (fun _ _ _ h => h) rfl (by assumption) (fun w' hS' => by go_simp) ?_
            simp only [Act.put, List.setIfInBounds_toArray, List.set_cons_zero, List.set_cons_succ]
            refine wpAnyH_done (by kernel_rfl) ?_ _
            simp only [NoPan]
            refine gen_q (fun W' => Below W.heap.size W W') (gB1.out.drew) ?_
            intro W2 hb
            have gB2 := Lib.hid hb
            clear hb hS
            go_wp2
            obtain ⟨j, hj⟩ : ∃ j, j = k - i := ⟨_, rfl⟩
            have gM2 := Lib.hid (gM.out.stepB (by rw [glc.out]; exact hlt) (by rw [glb.out]; exact hjb0) (by rw [hzy0, gyd.out]))
            rw [← hj] at hjb0 hzy0
            have hjb : j < nb := hjb0
            have wj : IntKind.i64.wrap ((k : Int) - (i : Int)) = (j : Int) := by rw [IntKind.wrap_i64]; omega
            have ljb : decide ((j : Int) ≥ (nb : Int)) = false := by simp; omega
            obtain ⟨gb, rfl, hz0⟩ := grb.out j hjb
            have hz : W2.cell? ⟨gb, j, none⟩ = some (.int .u64 ((msort lb).getD j 0)) := (gB2.out.cell (block_lt_of_cell hz0)).trans hz0
            obtain ⟨z, hzd⟩ : ∃ z, z = (msort lb).getD j 0 := ⟨_, rfl⟩
            rw [← hzd] at hz hzy0
            have gz2 := Lib.hid hz
            have gy2 := Lib.hid (show W2.cell? ⟨gc, k, none⟩ = some (.int .u64 y) from (gB2.out.cell gcW).trans gyW.out)
            have hzy : (z != y) = false := by rw [hzy0]; simp
            clear hz hzd hz0 hj hjb0 hzy0
            refine wp_nopan ?_
            refine wp_region_held (S := fun w' => w'.cell? ⟨gb, j, none⟩ = some (.int .u64 z) ∧ w'.cell? ⟨gc, k, none⟩ = some (.int .u64 y)) (by kernel_rfl) ?_
            have hS : ({ W2 with drawn := W2.drawn + 1 } : World).cell? ⟨gb, j, none⟩ = some (.int .u64 z) ∧ ({ W2 with drawn := W2.drawn + 1 } : World).cell? ⟨gc, k, none⟩ = some (.int .u64 y) := ⟨gz2.out, gy2.out⟩
            refine takeL (i := 0) (v := (.int .i64 (k : Int))) rfl (by kernel_rfl) (by kernel_rfl) (by kernel_rfl) (fun _ _ _ h => h) rfl (by assumption) (fun w' hS' => by go_simp) ?_
            simp only [Act.put, List.setIfInBounds_toArray, List.set_cons_zero, List.set_cons_succ]
            refine takeL (i := 1) (v := (.int .i64 (i : Int))) rfl (by kernel_rfl) (by kernel_rfl) (by kernel_rfl) (fun _ _ _ h => h) rfl (by assumption) (fun w' hS' => by go_simp) ?_
            simp only [Act.put, List.setIfInBounds_toArray, List.set_cons_zero, List.set_cons_succ]
            refine takeL (i := 2) (v := (.int .i64 (j : Int))) rfl (by kernel_rfl) (by kernel_rfl) (by kernel_rfl) (fun _ _ _ h => h) rfl (by assumption) (fun w' hS' => by go_simp) ?_
            simp only [Act.put, List.setIfInBounds_toArray, List.set_cons_zero, List.set_cons_succ]
            refine takeL (i := 3) (v := (.slice (some ⟨gb, 0, none⟩) nb cb)) rfl (by kernel_rfl) (by kernel_rfl) (by kernel_rfl) (fun _ _ _ h => h) rfl (by assumption) (fun w' hS' => by go_simp) ?_
            simp only [Act.put, List.setIfInBounds_toArray, List.set_cons_zero, List.set_cons_succ]
            refine takeL (i := 4) (v := (.int .i64 (nb : Int))) rfl (by kernel_rfl) (by kernel_rfl) (by kernel_rfl) (fun _ _ _ h => h) rfl (by assumption) (fun w' hS' => by go_simp) ?_
            simp only [Act.put, List.setIfInBounds_toArray, List.set_cons_zero, List.set_cons_succ]
            refine takeL (i := 5) (v := (.bool false)) rfl (by kernel_rfl) (by kernel_rfl) (by kernel_rfl) (fun _ _ _ h => h) rfl (by assumption) (fun w' hS' => by go_simp) ?_
            simp only [Act.put, List.setIfInBounds_toArray, List.set_cons_zero, List.set_cons_succ]
            refine takeL (i := 6) (v := (.bool false)) rfl (by kernel_rfl) (by kernel_rfl) (by kernel_rfl) (fun _ _ _ h => h) rfl (by assumption) (fun w' hS' => by go_simp) ?_
            simp only [Act.put, List.setIfInBounds_toArray, List.set_cons_zero, List.set_cons_succ]
            refine takeL (i := 7) (v := (.slice (some ⟨gb, 0, none⟩) nb cb)) rfl (by kernel_rfl) (by kernel_rfl) (by kernel_rfl) (fun _ _ _ h => h) rfl (by assumption) (fun w' hS' => by go_simp) ?_
            simp only [Act.put, List.setIfInBounds_toArray, List.set_cons_zero, List.set_cons_succ]
            refine takeL (i := 8) (v := (.int .i64 (k : Int))) rfl (by kernel_rfl) (by kernel_rfl) (by kernel_rfl) (fun _ _ _ h => h) rfl (by assumption) (fun w' hS' => by go_simp) ?_
            simp only [Act.put, List.setIfInBounds_toArray, List.set_cons_zero, List.set_cons_succ]
            refine takeL (i := 9) (v := (.int .i64 (i : Int))) rfl (by kernel_rfl) (by kernel_rfl) (by kernel_rfl) (fun _ _ _ h => h) rfl (by assumption) (fun w' hS' => by go_simp) ?_
            simp only [Act.put, List.setIfInBounds_toArray, List.set_cons_zero, List.set_cons_succ]
            refine takeL (i := 10) (v := (.int .i64 (j : Int))) rfl (by kernel_rfl) (by kernel_rfl) (by kernel_rfl) (fun _ _ _ h => h) rfl (by assumption) (fun w' hS' => by go_simp) ?_
            simp only [Act.put, List.setIfInBounds_toArray, List.set_cons_zero, List.set_cons_succ]
            refine takeL (i := 11) (v := (.pointer (some ⟨gb, j, none⟩))) rfl (by kernel_rfl) (by kernel_rfl) (by kernel_rfl) (fun _ _ _ h => h) rfl (by assumption) (fun w' hS' => run_index_slice _ 37 22 (.tmp 162) (.tmp 165) rfl Tryd.underlying37 1 sz_u64 gb 0 nb cb rfl .i64 j rfl hjb j (by omega)) ?_
            simp only [Act.put, List.setIfInBounds_toArray, List.set_cons_zero, List.set_cons_succ]
            refine takeL (i := 12) (v := (.int .u64 z)) rfl (by kernel_rfl) (by kernel_rfl) (by kernel_rfl) (fun _ _ _ h => h) rfl (by assumption) (fun w' hS' => run_load_cell _ 22 (.tmp 166) rfl ⟨gb, j, none⟩ rfl _ hS'.1 _ Tryd.underlying22 rfl) ?_
            simp only [Act.put, List.setIfInBounds_toArray, List.set_cons_zero, List.set_cons_succ]
            refine takeL (i := 13) (v := (.slice (some ⟨gc, 0, none⟩) nc cc)) rfl (by kernel_rfl) (by kernel_rfl) (by kernel_rfl) (fun _ _ _ h => h) rfl (by assumption) (fun w' hS' => by go_simp) ?_
            simp only [Act.put, List.setIfInBounds_toArray, List.set_cons_zero, List.set_cons_succ]
            refine takeL (i := 14) (v := (.int .i64 (k : Int))) rfl (by kernel_rfl) (by kernel_rfl) (by kernel_rfl) (fun _ _ _ h => h) rfl (by assumption) (fun w' hS' => by go_simp) ?_
            simp only [Act.put, List.setIfInBounds_toArray, List.set_cons_zero, List.set_cons_succ]
            refine takeL (i := 15) (v := (.pointer (some ⟨gc, k, none⟩))) rfl (by kernel_rfl) (by kernel_rfl) (by kernel_rfl) (fun _ _ _ h => h) rfl (by assumption) (fun w' hS' => run_index_slice _ 37 22 (.tmp 168) (.tmp 169) rfl Tryd.underlying37 1 sz_u64 gc 0 nc cc rfl .i64 k rfl hlt k (by omega)) ?_
            simp only [Act.put, List.setIfInBounds_toArray, List.set_cons_zero, List.set_cons_succ]
            refine takeL (i := 16) (v := (.int .u64 y)) rfl (by kernel_rfl) (by kernel_rfl) (by kernel_rfl) (fun _ _ _ h => h) rfl (by assumption) (fun w' hS' => run_load_cell _ 22 (.tmp 170) rfl ⟨gc, k, none⟩ rfl _ hS'.2 _ Tryd.underlying22 rfl) ?_
            simp only [Act.put, List.setIfInBounds_toArray, List.set_cons_zero, List.set_cons_succ]
            refine takeL (i := 17) (v := (.bool false)) rfl (by kernel_rfl) (by kernel_rfl) (by kernel_rfl) (fun _ _ _ h => h) rfl (by assumption) (fun w' hS' => by go_simp) ?_
            simp only [Act.put, List.setIfInBounds_toArray, List.set_cons_zero, List.set_cons_succ]
            refine takeL (i := 18) (v := (.bool false)) rfl (by kernel_rfl) (by kernel_rfl) (by kernel_rfl) (fun _ _ _ h => h) rfl (by assumption) (fun w' hS' => by go_simp) ?_
            simp only [Act.put, List.setIfInBounds_toArray, List.set_cons_zero, List.set_cons_succ]
            refine wpAnyH_done (by kernel_rfl) ?_ _
            simp only [NoPan]
            refine gen_q (fun W' => Below W.heap.size W W') (gB2.out.drew) ?_
            intro W3 hb
            have gB3 := Lib.hid hb
            clear hb hS
            go_wp2
            exact ⟨⟨i, k + 1, rfl, rfl, gM2.out, gB3.out⟩, by simp [intOf]; omega⟩
        · have lia : decide ((i : Int) < (na : Int)) = false := by simp; omega
          have hnx := gM.out.next gpa.out gpb.out gpc.out (by rw [glc.out]; exact hlt)
          rw [← gyd.out, glb.out, gla.out] at hnx
          obtain ⟨hjb0, hzy0⟩ := hnx.resolve_left (fun h => hia h.1)
          clear hnx
          refine wp_nopan ?_
          refine wp_region_held (S := fun _ => True) (by kernel_rfl) ?_
          have hS : True := trivial
          refine takeL (i := 0) (v := (.int .i64 (i : Int))) rfl (by kernel_rfl) (by kernel_rfl) (by kernel_rfl) (fun _ _ _ h => h) rfl (by assumption) (fun w' hS' => by go_simp) ?_
          simp only [Act.put, List.setIfInBounds_toArray, List.set_cons_zero, List.set_cons_succ]
          refine takeL (i := 1) (v := (.slice ala na ca)) rfl (by kernel_rfl) (by kernel_rfl) (by kernel_rfl) (fun _ _ _ h => h) rfl (by assumption) (fun w' hS' => by go_simp) ?_
          simp only [Act.put, List.setIfInBounds_toArray, List.set_cons_zero, List.set_cons_succ]
          refine takeL (i := 2) (v := (.int .i64 (na : Int))) rfl (by kernel_rfl) (by kernel_rfl) (by kernel_rfl) (fun _ _ _ h => h) rfl (by assumption) (fun w' hS' => by go_simp) ?_
          simp only [Act.put, List.setIfInBounds_toArray, List.set_cons_zero, List.set_cons_succ]
          refine takeL (i := 3) (v := (.bool false)) rfl (by kernel_rfl) (by kernel_rfl) (by kernel_rfl) (fun _ _ _ h => h) rfl (by assumption) (fun w' hS' => by go_simp) ?_
          simp only [Act.put, List.setIfInBounds_toArray, List.set_cons_zero, List.set_cons_succ]
          refine takeL (i := 4) (v := (.bool false)) rfl (by kernel_rfl) (by kernel_rfl) (by kernel_rfl) (fun _ _ _ h => h) rfl (by assumption) (fun w' hS' => by go_simp) ?_
          simp only [Act.put, List.setIfInBounds_toArray, List.set_cons_zero, List.set_cons_succ]
          refine skipL (i := 5) rfl (by kernel_rfl) (by kernel_rfl) (by kernel_rfl) (fun _ _ _ h => h) rfl (by assumption) ?_
          simp only [Act.put, List.setIfInBounds_toArray, List.set_cons_zero, List.set_cons_succ]
          refine skipL (i := 6) rfl (by kernel_rfl) (by kernel_rfl) (by kernel_rfl) (fun _ _ _ h => h) rfl (by assumption) ?_
          simp only [Act.put, List.setIfInBounds_toArray, List.set_cons_zero, List.set_cons_succ]
          refine skipL (i := 7) rfl (by kernel_rfl) (by kernel_rfl) (by kernel_rfl) (fun _ _ _ h => h) rfl (by assumption) ?_
          simp only [Act.put, List.setIfInBounds_toArray, List.set_cons_zero, List.set_cons_succ]
          refine skipL (i := 8) rfl (by kernel_rfl) (by kernel_rfl) (by kernel_rfl) (fun _ _ _ h => h) rfl (by assumption) ?_
          simp only [Act.put, List.setIfInBounds_toArray, List.set_cons_zero, List.set_cons_succ]
          refine skipL (i := 9) rfl (by kernel_rfl) (by kernel_rfl) (by kernel_rfl) (fun _ _ _ h => h) rfl (by assumption) ?_
          simp only [Act.put, List.setIfInBounds_toArray, List.set_cons_zero, List.set_cons_succ]
          refine skipL (i := 10) rfl (by kernel_rfl) (by kernel_rfl) (by kernel_rfl) (fun _ _ _ h => h) rfl (by assumption) ?_
          simp only [Act.put, List.setIfInBounds_toArray, List.set_cons_zero, List.set_cons_succ]
          refine skipL (i := 11) rfl (by kernel_rfl) (by kernel_rfl) (by kernel_rfl) (fun _ _ _ h => h) rfl (by assumption) ?_
          simp only [Act.put, List.setIfInBounds_toArray, List.set_cons_zero, List.set_cons_succ]
          refine skipL (i := 12) rfl (by kernel_rfl) (by kernel_rfl) (by kernel_rfl) (fun _ _ _ h => h) rfl (by assumption) ?_
          simp only [Act.put, List.setIfInBounds_toArray, List.set_cons_zero, List.set_cons_succ]
          refine skipL (i := 13) rfl (by kernel_rfl) (by kernel_rfl) (by kernel_rfl) (fun _ _ _ h => h) rfl (by assumption) ?_
          simp only [Act.put, List.setIfInBounds_toArray, List.set_cons_zero, List.set_cons_succ]
          refine takeL (i := 14) (v := (.bool false)) rfl (by kernel_rfl) (by kernel_rfl) (by kernel_rfl) (fun _ _ _ h => h) rfl (by assumption) (fun w' hS' => by go_simp) ?_
          simp only [Act.put, List.setIfInBounds_toArray, List.set_cons_zero, List.set_cons_succ]
          refine wpAnyH_done (by kernel_rfl) ?_ _
          simp only [NoPan]
          refine gen_q (fun W' => Below W.heap.size W W') (gB1.out.drew) ?_
          intro W2 hb
          have gB2 := Lib.hid hb
          clear hb hS
          go_wp2
          obtain ⟨j, hj⟩ : ∃ j, j = k - i := ⟨_, rfl⟩
          have gM2 := Lib.hid (gM.out.stepB (by rw [glc.out]; exact hlt) (by rw [glb.out]; exact hjb0) (by rw [hzy0, gyd.out]))
          rw [← hj] at hjb0 hzy0
          have hjb : j < nb := hjb0
          have wj : IntKind.i64.wrap ((k : Int) - (i : Int)) = (j : Int) := by rw [IntKind.wrap_i64]; omega
          have ljb : decide ((j : Int) ≥ (nb : Int)) = false := by simp; omega
          obtain ⟨gb, rfl, hz0⟩ := grb.out j hjb
          have hz : W2.cell? ⟨gb, j, none⟩ = some (.int .u64 ((msort lb).getD j 0)) := (gB2.out.cell (block_lt_of_cell hz0)).trans hz0
          obtain ⟨z, hzd⟩ : ∃ z, z = (msort lb).getD j 0 := ⟨_, rfl⟩
          rw [← hzd] at hz hzy0
          have gz2 := Lib.hid hz
          have gy2 := Lib.hid (show W2.cell? ⟨gc, k, none⟩ = some (.int .u64 y) from (gB2.out.cell gcW).trans gyW.out)
          have hzy : (z != y) = false := by rw [hzy0]; simp
          clear hz hzd hz0 hj hjb0 hzy0
          refine wp_nopan ?_
          refine wp_region_held (S := fun w' => w'.cell? ⟨gb, j, none⟩ = some (.int .u64 z) ∧ w'.cell? ⟨gc, k, none⟩ = some (.int .u64 y)) (by kernel_rfl) ?_
          have hS : ({ W2 with drawn := W2.drawn + 1 } : World).cell? ⟨gb, j, none⟩ = some (.int .u64 z) ∧ ({ W2 with drawn := W2.drawn + 1 } : World).cell? ⟨gc, k, none⟩ = some (.int .u64 y) := ⟨gz2.out, gy2.out⟩
          refine takeL (i := 0) (v := (.int .i64 (k : Int))) rfl (by kernel_rfl) (by kernel_rfl) (by kernel_rfl) (fun _ _ _ h => h) rfl (by assumption) (fun w' hS' => by go_simp) ?_
          simp only [Act.put, List.setIfInBounds_toArray, List.set_cons_zero, List.set_cons_succ]
          refine takeL (i := 1) (v := (.int .i64 (i : Int))) rfl (by kernel_rfl) (by kernel_rfl) (by kernel_rfl) (fun _ _ _ h => h) rfl (by assumption) (fun w' hS' => by go_simp) ?_
          simp only [Act.put, List.setIfInBounds_toArray, List.set_cons_zero, List.set_cons_succ]
          refine takeL (i := 2) (v := (.int .i64 (j : Int))) rfl (by kernel_rfl) (by kernel_rfl) (by kernel_rfl) (fun _ _ _ h => h) rfl (by assumption) (fun w' hS' => by go_simp) ?_
          simp only [Act.put, List.setIfInBounds_toArray, List.set_cons_zero, List.set_cons_succ]
          refine takeL (i := 3) (v := (.slice (some ⟨gb, 0, none⟩) nb cb)) rfl (by kernel_rfl) (by kernel_rfl) (by kernel_rfl) (fun _ _ _ h => h) rfl (by assumption) (fun w' hS' => by go_simp) ?_
          simp only [Act.put, List.setIfInBounds_toArray, List.set_cons_zero, List.set_cons_succ]
          refine takeL (i := 4) (v := (.int .i64 (nb : Int))) rfl (by kernel_rfl) (by kernel_rfl) (by kernel_rfl) (fun _ _ _ h => h) rfl (by assumption) (fun w' hS' => by go_simp) ?_
          simp only [Act.put, List.setIfInBounds_toArray, List.set_cons_zero, List.set_cons_succ]
          refine takeL (i := 5) (v := (.bool false)) rfl (by kernel_rfl) (by kernel_rfl) (by kernel_rfl) (fun _ _ _ h => h) rfl (by assumption) (fun w' hS' => by go_simp) ?_
          simp only [Act.put, List.setIfInBounds_toArray, List.set_cons_zero, List.set_cons_succ]
          refine takeL (i := 6) (v := (.bool false)) rfl (by kernel_rfl) (by kernel_rfl) (by kernel_rfl) (fun _ _ _ h => h) rfl (by assumption) (fun w' hS' => by go_simp) ?_
          simp only [Act.put, List.setIfInBounds_toArray, List.set_cons_zero, List.set_cons_succ]
          refine takeL (i := 7) (v := (.slice (some ⟨gb, 0, none⟩) nb cb)) rfl (by kernel_rfl) (by kernel_rfl) (by kernel_rfl) (fun _ _ _ h => h) rfl (by assumption) (fun w' hS' => by go_simp) ?_
          simp only [Act.put, List.setIfInBounds_toArray, List.set_cons_zero, List.set_cons_succ]
          refine takeL (i := 8) (v := (.int .i64 (k : Int))) rfl (by kernel_rfl) (by kernel_rfl) (by kernel_rfl) (fun _ _ _ h => h) rfl (by assumption) (fun w' hS' => by go_simp) ?_
          simp only [Act.put, List.setIfInBounds_toArray, List.set_cons_zero, List.set_cons_succ]
          refine takeL (i := 9) (v := (.int .i64 (i : Int))) rfl (by kernel_rfl) (by kernel_rfl) (by kernel_rfl) (fun _ _ _ h => h) rfl (by assumption) (fun w' hS' => by go_simp) ?_
          simp only [Act.put, List.setIfInBounds_toArray, List.set_cons_zero, List.set_cons_succ]
          refine takeL (i := 10) (v := (.int .i64 (j : Int))) rfl (by kernel_rfl) (by kernel_rfl) (by kernel_rfl) (fun _ _ _ h => h) rfl (by assumption) (fun w' hS' => by go_simp) ?_
          simp only [Act.put, List.setIfInBounds_toArray, List.set_cons_zero, List.set_cons_succ]
          refine takeL (i := 11) (v := (.pointer (some ⟨gb, j, none⟩))) rfl (by kernel_rfl) (by kernel_rfl) (by kernel_rfl) (fun _ _ _ h => h) rfl (by assumption) (fun w' hS' => run_index_slice _ 37 22 (.tmp 162) (.tmp 165) rfl Tryd.underlying37 1 sz_u64 gb 0 nb cb rfl .i64 j rfl hjb j (by omega)) ?_
          simp only [Act.put, List.setIfInBounds_toArray, List.set_cons_zero, List.set_cons_succ]
          refine takeL (i := 12) (v := (.int .u64 z)) rfl (by kernel_rfl) (by kernel_rfl) (by kernel_rfl) (fun _ _ _ h => h) rfl (by assumption) (fun w' hS' => run_load_cell _ 22 (.tmp 166) rfl ⟨gb, j, none⟩ rfl _ hS'.1 _ Tryd.underlying22 rfl) ?_
          simp only [Act.put, List.setIfInBounds_toArray, List.set_cons_zero, List.set_cons_succ]
          refine takeL (i := 13) (v := (.slice (some ⟨gc, 0, none⟩) nc cc)) rfl (by kernel_rfl) (by kernel_rfl) (by kernel_rfl) (fun _ _ _ h => h) rfl (by assumption) (fun w' hS' => by go_simp) ?_
          simp only [Act.put, List.setIfInBounds_toArray, List.set_cons_zero, List.set_cons_succ]
          refine takeL (i := 14) (v := (.int .i64 (k : Int))) rfl (by kernel_rfl) (by kernel_rfl) (by kernel_rfl) (fun _ _ _ h => h) rfl (by assumption) (fun w' hS' => by go_simp) ?_
          simp only [Act.put, List.setIfInBounds_toArray, List.set_cons_zero, List.set_cons_succ]
          refine takeL (i := 15) (v := (.pointer (some ⟨gc, k, none⟩))) rfl (by kernel_rfl) (by kernel_rfl) (by kernel_rfl) (fun _ _ _ h => h) rfl (by assumption) (fun w' hS' => run_index_slice _ 37 22 (.tmp 168) (.tmp 169) rfl Tryd.underlying37 1 sz_u64 gc 0 nc cc rfl .i64 k rfl hlt k (by omega)) ?_
          simp only [Act.put, List.setIfInBounds_toArray, List.set_cons_zero, List.set_cons_succ]
          refine takeL (i := 16) (v := (.int .u64 y)) rfl (by kernel_rfl) (by kernel_rfl) (by kernel_rfl) (fun _ _ _ h => h) rfl (by assumption) (fun w' hS' => run_load_cell _ 22 (.tmp 170) rfl ⟨gc, k, none⟩ rfl _ hS'.2 _ Tryd.underlying22 rfl) ?_
          simp only [Act.put, List.setIfInBounds_toArray, List.set_cons_zero, List.set_cons_succ]
          refine takeL (i := 17) (v := (.bool false)) rfl (by kernel_rfl) (by kernel_rfl) (by kernel_rfl) (fun _ _ _ h => h) rfl (by assumption) (fun w' hS' => by go_simp) ?_
          simp only [Act.put, List.setIfInBounds_toArray, List.set_cons_zero, List.set_cons_succ]
          refine takeL (i := 18) (v := (.bool false)) rfl (by kernel_rfl) (by kernel_rfl) (by kernel_rfl) (fun _ _ _ h => h) rfl (by assumption) (fun w' hS' => by go_simp) ?_
          simp only [Act.put, List.setIfInBounds_toArray, List.set_cons_zero, List.set_cons_succ]
          refine wpAnyH_done (by kernel_rfl) ?_ _
          simp only [NoPan]
          refine gen_q (fun W' => Below W.heap.size W W') (gB2.out.drew) ?_
          intro W3 hb
          have gB3 := Lib.hid hb
          clear hb hS
          go_wp2
          exact ⟨⟨i, k + 1, rfl, rfl, gM2.out, gB3.out⟩, by simp [intOf]; omega⟩
      · have lk0 : decide ((k : Int) > 0) = true := by simp; omega
        have hpos : 0 < k := by omega
        obtain ⟨k1, hk1d⟩ : ∃ k1, k1 + 1 = k := ⟨k - 1, by omega⟩
        have wk1 : IntKind.i64.wrap ((k : Int) - 1) = (k1 : Int) := by rw [IntKind.wrap_i64]; omega
        have hk1 : k1 < nc := by omega
        obtain ⟨gc', hgc', hz0⟩ := grc.out k1 hk1
        cases hgc'
        obtain ⟨y0, hy0d⟩ : ∃ y0, y0 = (msort C).getD k1 0 := ⟨_, rfl⟩
        have hlt0 : y0 < y := by rw [hy0d, gyd.out]; exact msort_lt gC.out (by omega) (by rw [glc0.out]; exact hlt)
        have ly : decide (y0 ≥ y) = false := by simp; omega
        have gy0 := Lib.hid (show wr.cell? ⟨gc, k1, none⟩ = some (.int .u64 y0) by rw [hy0d]; exact (gB.out.cell (block_lt_of_cell hz0)).trans hz0)
        clear hz0 hy0d hk1d
        go_wp2
        refine wp_nopan ?_
        refine wp_region_held (S := fun w' => w'.cell? ⟨gc, k1, none⟩ = some (.int .u64 y0) ∧ w'.cell? ⟨gc, k, none⟩ = some (.int .u64 y)) (by kernel_rfl) ?_
        have hS : ({ wr with drawn := wr.drawn + 1 } : World).cell? ⟨gc, k1, none⟩ = some (.int .u64 y0) ∧ ({ wr with drawn := wr.drawn + 1 } : World).cell? ⟨gc, k, none⟩ = some (.int .u64 y) := ⟨gy0.out, gy.out⟩
        refine takeL (i := 0) (v := (.int .i64 (k : Int))) rfl (by kernel_rfl) (by kernel_rfl) (by kernel_rfl) (fun _ _ _ h => h) rfl (by assumption) (fun w' hS' => by go_simp) ?_
        simp only [Act.put, List.setIfInBounds_toArray, List.set_cons_zero, List.set_cons_succ]
        refine takeL (i := 1) (v := (.bool true)) rfl (by kernel_rfl) (by kernel_rfl) (by kernel_rfl) (fun _ _ _ h => h) rfl (by assumption) (fun w' hS' => by go_simp) ?_
        simp only [Act.put, List.setIfInBounds_toArray, List.set_cons_zero, List.set_cons_succ]
        refine takeL (i := 2) (v := (.bool true)) rfl (by kernel_rfl) (by kernel_rfl) (by kernel_rfl) (fun _ _ _ h => h) rfl (by assumption) (fun w' hS' => by go_simp) ?_
        simp only [Act.put, List.setIfInBounds_toArray, List.set_cons_zero, List.set_cons_succ]
        refine takeL (i := 3) (v := (.slice (some ⟨gc, 0, none⟩) nc cc)) rfl (by kernel_rfl) (by kernel_rfl) (by kernel_rfl) (fun _ _ _ h => h) rfl (by assumption) (fun w' hS' => by go_simp) ?_
        simp only [Act.put, List.setIfInBounds_toArray, List.set_cons_zero, List.set_cons_succ]
        refine takeL (i := 4) (v := (.int .i64 (k : Int))) rfl (by kernel_rfl) (by kernel_rfl) (by kernel_rfl) (fun _ _ _ h => h) rfl (by assumption) (fun w' hS' => by go_simp) ?_
        simp only [Act.put, List.setIfInBounds_toArray, List.set_cons_zero, List.set_cons_succ]
        refine takeL (i := 5) (v := (.int .i64 (k1 : Int))) rfl (by kernel_rfl) (by kernel_rfl) (by kernel_rfl) (fun _ _ _ h => h) rfl (by assumption) (fun w' hS' => by go_simp) ?_
        simp only [Act.put, List.setIfInBounds_toArray, List.set_cons_zero, List.set_cons_succ]
        refine takeL (i := 6) (v := (.pointer (some ⟨gc, k1, none⟩))) rfl (by kernel_rfl) (by kernel_rfl) (by kernel_rfl) (fun _ _ _ h => h) rfl (by assumption) (fun w' hS' => run_index_slice _ 37 22 (.tmp 127) (.tmp 129) rfl Tryd.underlying37 1 sz_u64 gc 0 nc cc rfl .i64 k1 rfl hk1 k1 (by omega)) ?_
        simp only [Act.put, List.setIfInBounds_toArray, List.set_cons_zero, List.set_cons_succ]
        refine takeL (i := 7) (v := (.int .u64 y0)) rfl (by kernel_rfl) (by kernel_rfl) (by kernel_rfl) (fun _ _ _ h => h) rfl (by assumption) (fun w' hS' => run_load_cell _ 22 (.tmp 130) rfl ⟨gc, k1, none⟩ rfl _ hS'.1 _ Tryd.underlying22 rfl) ?_
        simp only [Act.put, List.setIfInBounds_toArray, List.set_cons_zero, List.set_cons_succ]
        refine takeL (i := 8) (v := (.slice (some ⟨gc, 0, none⟩) nc cc)) rfl (by kernel_rfl) (by kernel_rfl) (by kernel_rfl) (fun _ _ _ h => h) rfl (by assumption) (fun w' hS' => by go_simp) ?_
        simp only [Act.put, List.setIfInBounds_toArray, List.set_cons_zero, List.set_cons_succ]
        refine takeL (i := 9) (v := (.int .i64 (k : Int))) rfl (by kernel_rfl) (by kernel_rfl) (by kernel_rfl) (fun _ _ _ h => h) rfl (by assumption) (fun w' hS' => by go_simp) ?_
        simp only [Act.put, List.setIfInBounds_toArray, List.set_cons_zero, List.set_cons_succ]
        refine takeL (i := 10) (v := (.pointer (some ⟨gc, k, none⟩))) rfl (by kernel_rfl) (by kernel_rfl) (by kernel_rfl) (fun _ _ _ h => h) rfl (by assumption) (fun w' hS' => run_index_slice _ 37 22 (.tmp 132) (.tmp 133) rfl Tryd.underlying37 1 sz_u64 gc 0 nc cc rfl .i64 k rfl hlt k (by omega)) ?_
        simp only [Act.put, List.setIfInBounds_toArray, List.set_cons_zero, List.set_cons_succ]
        refine takeL (i := 11) (v := (.int .u64 y)) rfl (by kernel_rfl) (by kernel_rfl) (by kernel_rfl) (fun _ _ _ h => h) rfl (by assumption) (fun w' hS' => run_load_cell _ 22 (.tmp 134) rfl ⟨gc, k, none⟩ rfl _ hS'.2 _ Tryd.underlying22 rfl) ?_
        simp only [Act.put, List.setIfInBounds_toArray, List.set_cons_zero, List.set_cons_succ]
        refine takeL (i := 12) (v := (.bool false)) rfl (by kernel_rfl) (by kernel_rfl) (by kernel_rfl) (fun _ _ _ h => h) rfl (by assumption) (fun w' hS' => by go_simp) ?_
        simp only [Act.put, List.setIfInBounds_toArray, List.set_cons_zero, List.set_cons_succ]
        refine takeL (i := 13) (v := (.bool false)) rfl (by kernel_rfl) (by kernel_rfl) (by kernel_rfl) (fun _ _ _ h => h) rfl (by assumption) (fun w' hS' => by go_simp) ?_
        simp only [Act.put, List.setIfInBounds_toArray, List.set_cons_zero, List.set_cons_succ]
        refine wpAnyH_done (by kernel_rfl) ?_ _
        simp only [NoPan]
        refine gen_q (fun W' => Below W.heap.size W W') (gB.out.drew) ?_
        intro W1 hb
        have gB1 := Lib.hid hb
        clear hb hS
        clear wk1 hlt0 ly
        have gy1 := Lib.hid (show W1.cell? ⟨gc, k, none⟩ = some (.int .u64 y) from (gB1.out.cell gcW).trans gyW.out)
        go_wp2
        by_cases hia : i < na
        · have lia : decide ((i : Int) < (na : Int)) = true := by simp; omega
          obtain ⟨ga, rfl, hx0⟩ := gra.out i hia
          have hx : W1.cell? ⟨ga, i, none⟩ = some (.int .u64 ((msort la).getD i 0)) := (gB1.out.cell (block_lt_of_cell hx0)).trans hx0
          obtain ⟨x, hxd⟩ : ∃ x, x = (msort la).getD i 0 := ⟨_, rfl⟩
          rw [← hxd] at hx
          have gxd := Lib.hid hxd
          have gx1 := Lib.hid hx
          clear hx hxd hx0
          by_cases hxy : x = y
          · have lxy : (x == y) = true := by simpa using hxy
            have hyx : y = x := hxy.symm
            subst hyx
            have gM2 := Lib.hid (gM.out.stepA (by rw [glc.out]; exact hlt) (by rw [gla.out]; exact hia) (by rw [← gxd.out, ← gyd.out]))
            refine wp_nopan ?_
            refine wp_region_held (S := fun w' => w'.cell? ⟨ga, i, none⟩ = some (.int .u64 y) ∧ w'.cell? ⟨gc, k, none⟩ = some (.int .u64 y)) (by kernel_rfl) ?_
            have hS : ({ W1 with drawn := W1.drawn + 1 } : World).cell? ⟨ga, i, none⟩ = some (.int .u64 y) ∧ ({ W1 with drawn := W1.drawn + 1 } : World).cell? ⟨gc, k, none⟩ = some (.int .u64 y) := ⟨gx1.out, gy1.out⟩
            refine takeL (i := 0) (v := (.int .i64 (i : Int))) rfl (by kernel_rfl) (by kernel_rfl) (by kernel_rfl) (fun _ _ _ h => h) rfl (by assumption) (fun w' hS' => by go_simp) ?_
            simp only [Act.put, List.setIfInBounds_toArray, List.set_cons_zero, List.set_cons_succ]
            refine takeL (i := 1) (v := (.slice (some ⟨ga, 0, none⟩) na ca)) rfl (by kernel_rfl) (by kernel_rfl) (by kernel_rfl) (fun _ _ _ h => h) rfl (by assumption) (fun w' hS' => by go_simp) ?_
            simp only [Act.put, List.setIfInBounds_toArray, List.set_cons_zero, List.set_cons_succ]
            refine takeL (i := 2) (v := (.int .i64 (na : Int))) rfl (by kernel_rfl) (by kernel_rfl) (by kernel_rfl) (fun _ _ _ h => h) rfl (by assumption) (fun w' hS' => by go_simp) ?_
            simp only [Act.put, List.setIfInBounds_toArray, List.set_cons_zero, List.set_cons_succ]
            refine takeL (i := 3) (v := (.bool true)) rfl (by kernel_rfl) (by kernel_rfl) (by kernel_rfl) (fun _ _ _ h => h) rfl (by assumption) (fun w' hS' => by go_simp) ?_
            simp only [Act.put, List.setIfInBounds_toArray, List.set_cons_zero, List.set_cons_succ]
            refine takeL (i := 4) (v := (.bool true)) rfl (by kernel_rfl) (by kernel_rfl) (by kernel_rfl) (fun _ _ _ h => h) rfl (by assumption) (fun w' hS' => by go_simp) ?_
            simp only [Act.put, List.setIfInBounds_toArray, List.set_cons_zero, List.set_cons_succ]
            refine takeL (i := 5) (v := (.slice (some ⟨ga, 0, none⟩) na ca)) rfl (by kernel_rfl) (by kernel_rfl) (by kernel_rfl) (fun _ _ _ h => h) rfl (by assumption) (fun w' hS' => by go_simp) ?_
            simp only [Act.put, List.setIfInBounds_toArray, List.set_cons_zero, List.set_cons_succ]
            refine takeL (i := 6) (v := (.int .i64 (i : Int))) rfl (by kernel_rfl) (by kernel_rfl) (by kernel_rfl) (fun _ _ _ h => h) rfl (by assumption) (fun w' hS' => by go_simp) ?_
            simp only [Act.put, List.setIfInBounds_toArray, List.set_cons_zero, List.set_cons_succ]
            refine takeL (i := 7) (v := (.pointer (some ⟨ga, i, none⟩))) rfl (by kernel_rfl) (by kernel_rfl) (by kernel_rfl) (fun _ _ _ h => h) rfl (by assumption) (fun w' hS' => run_index_slice _ 37 22 (.tmp 143) (.tmp 144) rfl Tryd.underlying37 1 sz_u64 ga 0 na ca rfl .i64 i rfl hia i (by omega)) ?_
            simp only [Act.put, List.setIfInBounds_toArray, List.set_cons_zero, List.set_cons_succ]
            refine takeL (i := 8) (v := (.int .u64 y)) rfl (by kernel_rfl) (by kernel_rfl) (by kernel_rfl) (fun _ _ _ h => h) rfl (by assumption) (fun w' hS' => run_load_cell _ 22 (.tmp 145) rfl ⟨ga, i, none⟩ rfl _ hS'.1 _ Tryd.underlying22 rfl) ?_
            simp only [Act.put, List.setIfInBounds_toArray, List.set_cons_zero, List.set_cons_succ]
            refine takeL (i := 9) (v := (.slice (some ⟨gc, 0, none⟩) nc cc)) rfl (by kernel_rfl) (by kernel_rfl) (by kernel_rfl) (fun _ _ _ h => h) rfl (by assumption) (fun w' hS' => by go_simp) ?_
            simp only [Act.put, List.setIfInBounds_toArray, List.set_cons_zero, List.set_cons_succ]
            refine takeL (i := 10) (v := (.int .i64 (k : Int))) rfl (by kernel_rfl) (by kernel_rfl) (by kernel_rfl) (fun _ _ _ h => h) rfl (by assumption) (fun w' hS' => by go_simp) ?_
            simp only [Act.put, List.setIfInBounds_toArray, List.set_cons_zero, List.set_cons_succ]
            refine takeL (i := 11) (v := (.pointer (some ⟨gc, k, none⟩))) rfl (by kernel_rfl) (by kernel_rfl) (by kernel_rfl) (fun _ _ _ h => h) rfl (by assumption) (fun w' hS' => run_index_slice _ 37 22 (.tmp 147) (.tmp 148) rfl Tryd.underlying37 1 sz_u64 gc 0 nc cc rfl .i64 k rfl hlt k (by omega)) ?_
            simp only [Act.put, List.setIfInBounds_toArray, List.set_cons_zero, List.set_cons_succ]
            refine takeL (i := 12) (v := (.int .u64 y)) rfl (by kernel_rfl) (by kernel_rfl) (by kernel_rfl) (fun _ _ _ h => h) rfl (by assumption) (fun w' hS' => run_load_cell _ 22 (.tmp 149) rfl ⟨gc, k, none⟩ rfl _ hS'.2 _ Tryd.underlying22 rfl) ?_
            simp only [Act.put, List.setIfInBounds_toArray, List.set_cons_zero, List.set_cons_succ]
            refine takeL (i := 13) (v := (.bool true)) rfl (by kernel_rfl) (by kernel_rfl) (by kernel_rfl) (fun _ _ _ h => h) rfl (by assumption) (fun w' hS' => by go_simp) ?_
            simp only [Act.put, List.setIfInBounds_toArray, List.set_cons_zero, List.set_cons_succ]
            refine takeL (i := 14) (v := (.bool true)) rfl (by kernel_rfl) (by kernel_rfl) (by kernel_rfl) (fun _ _ _ h => h) rfl (by assumption) (fun w' hS' => by go_simp) ?_
            simp only [Act.put, List.setIfInBounds_toArray, List.set_cons_zero, List.set_cons_succ]
            refine wpAnyH_done (by kernel_rfl) ?_ _
            simp only [NoPan]
            refine gen_q (fun W' => Below W.heap.size W W') (gB1.out.drew) ?_
            intro W2 hb
            have gB2 := Lib.hid hb
            clear hb hS
            go_wp2
            exact ⟨⟨i + 1, k + 1, rfl, rfl, gM2.out, gB2.out⟩, by simp [intOf]; omega⟩
          · have lxy : (x == y) = false := by simpa using hxy
            have hnx := gM.out.next gpa.out gpb.out gpc.out (by rw [glc.out]; exact hlt)
            rw [← gxd.out, ← gyd.out, glb.out] at hnx
            obtain ⟨hjb0, hzy0⟩ := hnx.resolve_left (fun h => hxy h.2)
            clear hnx
            refine wp_nopan ?_
            refine wp_region_held (S := fun w' => w'.cell? ⟨ga, i, none⟩ = some (.int .u64 x) ∧ w'.cell? ⟨gc, k, none⟩ = some (.int .u64 y)) (by kernel_rfl) ?_
            have hS : ({ W1 with drawn := W1.drawn + 1 } : World).cell? ⟨ga, i, none⟩ = some (.int .u64 x) ∧ ({ W1 with drawn := W1.drawn + 1 } : World).cell? ⟨gc, k, none⟩ = some (.int .u64 y) := ⟨gx1.out, gy1.out⟩
            refine takeL (i := 0) (v := (.int .i64 (i : Int))) rfl (by kernel_rfl) (by kernel_rfl) (by kernel_rfl) (fun _ _ _ h => h) rfl (by assumption) (fun w' hS' => by go_simp) ?_
            simp only [Act.put, List.setIfInBounds_toArray, List.set_cons_zero, List.set_cons_succ]
            refine takeL (i := 1) (v := (.slice (some ⟨ga, 0, none⟩) na ca)) rfl (by kernel_rfl) (by kernel_rfl) (by kernel_rfl) (fun _ _ _ h => h) rfl (by assumption) (fun w' hS' => by go_simp) ?_
            simp only [Act.put, List.setIfInBounds_toArray, List.set_cons_zero, List.set_cons_succ]
            refine takeL (i := 2) (v := (.int .i64 (na : Int))) rfl (by kernel_rfl) (by kernel_rfl) (by kernel_rfl) (fun _ _ _ h => h) rfl (by assumption) (fun w' hS' => by go_simp) ?_
            simp only [Act.put, List.setIfInBounds_toArray, List.set_cons_zero, List.set_cons_succ]
            refine takeL (i := 3) (v := (.bool true)) rfl (by kernel_rfl) (by kernel_rfl) (by kernel_rfl) (fun _ _ _ h => h) rfl (by assumption) (fun w' hS' => by go_simp) ?_
            simp only [Act.put, List.setIfInBounds_toArray, List.set_cons_zero, List.set_cons_succ]
            refine takeL (i := 4) (v := (.bool true)) rfl (by kernel_rfl) (by kernel_rfl) (by kernel_rfl) (fun _ _ _ h => h) rfl (by assumption) (fun w' hS' => by go_simp) ?_
            simp only [Act.put, List.setIfInBounds_toArray, List.set_cons_zero, List.set_cons_succ]
            refine takeL (i := 5) (v := (.slice (some ⟨ga, 0, none⟩) na ca)) rfl (by kernel_rfl) (by kernel_rfl) (by kernel_rfl) (fun _ _ _ h => h) rfl (by assumption) (fun w' hS' => by go_simp) ?_
            simp only [Act.put, List.setIfInBounds_toArray, List.set_cons_zero, List.set_cons_succ]
            refine takeL (i := 6) (v := (.int .i64 (i : Int))) rfl (by kernel_rfl) (by kernel_rfl) (by kernel_rfl) (fun _ _ _ h => h) rfl (by assumption) (fun w' hS' => by go_simp) ?_
            simp only [Act.put, List.setIfInBounds_toArray, List.set_cons_zero, List.set_cons_succ]
            refine takeL (i := 7) (v := (.pointer (some ⟨ga, i, none⟩))) rfl (by kernel_rfl) (by kernel_rfl) (by kernel_rfl) (fun _ _ _ h => h) rfl (by assumption) (fun w' hS' => run_index_slice _ 37 22 (.tmp 143) (.tmp 144) rfl Tryd.underlying37 1 sz_u64 ga 0 na ca rfl .i64 i rfl hia i (by omega)) ?_
            simp only [Act.put, List.setIfInBounds_toArray, List.set_cons_zero, List.set_cons_succ]
            refine takeL (i := 8) (v := (.int .u64 x)) rfl (by kernel_rfl) (by kernel_rfl) (by kernel_rfl) (fun _ _ _ h => h) rfl (by assumption) (fun w' hS' => run_load_cell _ 22 (.tmp 145) rfl ⟨ga, i, none⟩ rfl _ hS'.1 _ Tryd.underlying22 rfl) ?_
            simp only [Act.put, List.setIfInBounds_toArray, List.set_cons_zero, List.set_cons_succ]
            refine takeL (i := 9) (v := (.slice (some ⟨gc, 0, none⟩) nc cc)) rfl (by kernel_rfl) (by kernel_rfl) (by kernel_rfl) (fun _ _ _ h => h) rfl (by assumption) (fun w' hS' => by go_simp) ?_
            simp only [Act.put, List.setIfInBounds_toArray, List.set_cons_zero, List.set_cons_succ]
            refine takeL (i := 10) (v := (.int .i64 (k : Int))) rfl (by kernel_rfl) (by kernel_rfl) (by kernel_rfl) (fun _ _ _ h => h) rfl (by assumption) (fun w' hS' => by go_simp) ?_
            simp only [Act.put, List.setIfInBounds_toArray, List.set_cons_zero, List.set_cons_succ]
            refine takeL (i := 11) (v := (.pointer (some ⟨gc, k, none⟩))) rfl (by kernel_rfl) (by kernel_rfl) (by kernel_rfl) (fun _ _ _ h => h) rfl (by assumption) (fun w' hS' => run_index_slice _ 37 22 (.tmp 147) (.tmp 148) rfl Tryd.underlying37 1 sz_u64 gc 0 nc cc rfl .i64 k rfl hlt k (by omega)) ?_
            simp only [Act.put, List.setIfInBounds_toArray, List.set_cons_zero, List.set_cons_succ]
            refine takeL (i := 12) (v := (.int .u64 y)) rfl (by kernel_rfl) (by kernel_rfl) (by kernel_rfl) (fun _ _ _ h => h) rfl (by assumption) (fun w' hS' => run_load_cell _ 22 (.tmp 149) rfl ⟨gc, k, none⟩ rfl _ hS'.2 _ Tryd.underlying22 rfl) ?_
            simp only [Act.put, List.setIfInBounds_toArray, List.set_cons_zero, List.set_cons_succ]
            refine takeL (i := 13) (v := (.bool false)) rfl (by kernel_rfl) (by kernel_rfl) (by kernel_rfl) (fun _ _ _ h => h) rfl (by assumption) (fun w' hS' => by go_simp) ?_
            simp only [Act.put, List.setIfInBounds_toArray, List.set_cons_zero, List.set_cons_succ]
            refine takeL (i := 14) (v := (.bool false)) rfl (by kernel_rfl) (by kernel_rfl) (by kernel_rfl) (fun _ _ _ h => h) rfl (by assumption) (fun w' hS' => by go_simp) ?_
            simp only [Act.put, List.setIfInBounds_toArray, List.set_cons_zero, List.set_cons_succ]
            refine wpAnyH_done (by kernel_rfl) ?_ _
            simp only [NoPan]
            refine gen_q (fun W' => Below W.heap.size W W') (gB1.out.drew) ?_
            intro W2 hb
            have gB2 := Lib.hid hb
            clear hb hS
            go_wp2
            obtain ⟨j, hj⟩ : ∃ j, j = k - i := ⟨_, rfl⟩
            have gM2 := Lib.hid (gM.out.stepB (by rw [glc.out]; exact hlt) (by rw [glb.out]; exact hjb0) (by rw [hzy0, gyd.out]))
            rw [← hj] at hjb0 hzy0
            have hjb : j < nb := hjb0
            have wj : IntKind.i64.wrap ((k : Int) - (i : Int)) = (j : Int) := by rw [IntKind.wrap_i64]; omega
            have ljb : decide ((j : Int) ≥ (nb : Int)) = false := by simp; omega
            obtain ⟨gb, rfl, hz0⟩ := grb.out j hjb
            have hz : W2.cell? ⟨gb, j, none⟩ = some (.int .u64 ((msort lb).getD j 0)) := (gB2.out.cell (block_lt_of_cell hz0)).trans hz0
            obtain ⟨z, hzd⟩ : ∃ z, z = (msort lb).getD j 0 := ⟨_, rfl⟩
            rw [← hzd] at hz hzy0
            have gz2 := Lib.hid hz
            have gy2 := Lib.hid (show W2.cell? ⟨gc, k, none⟩ = some (.int .u64 y) from (gB2.out.cell gcW).trans gyW.out)
            have hzy : (z != y) = false := by rw [hzy0]; simp
            clear hz hzd hz0 hj hjb0 hzy0
            refine wp_nopan ?_
            refine wp_region_held (S := fun w' => w'.cell? ⟨gb, j, none⟩ = some (.int .u64 z) ∧ w'.cell? ⟨gc, k, none⟩ = some (.int .u64 y)) (by kernel_rfl) ?_
            have hS : ({ W2 with drawn := W2.drawn + 1 } : World).cell? ⟨gb, j, none⟩ = some (.int .u64 z) ∧ ({ W2 with drawn := W2.drawn + 1 } : World).cell? ⟨gc, k, none⟩ = some (.int .u64 y) := ⟨gz2.out, gy2.out⟩
            refine takeL (i := 0) (v := (.int .i64 (k : Int))) rfl (by kernel_rfl) (by kernel_rfl) (by kernel_rfl) (fun _ _ _ h => h) rfl (by assumption) (fun w' hS' => by go_simp) ?_
            simp only [Act.put, List.setIfInBounds_toArray, List.set_cons_zero, List.set_cons_succ]
            refine takeL (i := 1) (v := (.int .i64 (i : Int))) rfl (by kernel_rfl) (by kernel_rfl) (by kernel_rfl) (fun _ _ _ h => h) rfl (by assumption) (fun w' hS' => by go_simp) ?_
            simp only [Act.put, List.setIfInBounds_toArray, List.set_cons_zero, List.set_cons_succ]
            refine takeL (i := 2) (v := (.int .i64 (j : Int))) rfl (by kernel_rfl) (by kernel_rfl) (by kernel_rfl) (fun _ _ _ h => h) rfl (by assumption) (fun w' hS' => by go_simp) ?_
            simp only [Act.put, List.setIfInBounds_toArray, List.set_cons_zero, List.set_cons_succ]
            refine takeL (i := 3) (v := (.slice (some ⟨gb, 0, none⟩) nb cb)) rfl (by kernel_rfl) (by kernel_rfl) (by kernel_rfl) (fun _ _ _ h => h) rfl (by assumption) (fun w' hS' => by go_simp) ?_
            simp only [Act.put, List.setIfInBounds_toArray, List.set_cons_zero, List.set_cons_succ]
            refine takeL (i := 4) (v := (.int .i64 (nb : Int))) rfl (by kernel_rfl) (by kernel_rfl) (by kernel_rfl) (fun _ _ _ h => h) rfl (by assumption) (fun w' hS' => by go_simp) ?_
            simp only [Act.put, List.setIfInBounds_toArray, List.set_cons_zero, List.set_cons_succ]
            refine takeL (i := 5) (v := (.bool false)) rfl (by kernel_rfl) (by kernel_rfl) (by kernel_rfl) (fun _ _ _ h => h) rfl (by assumption) (fun w' hS' => by go_simp) ?_
            simp only [Act.put, List.setIfInBounds_toArray, List.set_cons_zero, List.set_cons_succ]
            refine takeL (i := 6) (v := (.bool false)) rfl (by kernel_rfl) (by kernel_rfl) (by kernel_rfl) (fun _ _ _ h => h) rfl (by assumption) (fun w' hS' => by go_simp) ?_
            simp only [Act.put, List.setIfInBounds_toArray, List.set_cons_zero, List.set_cons_succ]
            refine takeL (i := 7) (v := (.slice (some ⟨gb, 0, none⟩) nb cb)) rfl (by kernel_rfl) (by kernel_rfl) (by kernel_rfl) (fun _ _ _ h => h) rfl (by assumption) (fun w' hS' => by go_simp) ?_
            simp only [Act.put, List.setIfInBounds_toArray, List.set_cons_zero, List.set_cons_succ]
            refine takeL (i := 8) (v := (.int .i64 (k : Int))) rfl (by kernel_rfl) (by kernel_rfl) (by kernel_rfl) (fun _ _ _ h => h) rfl (by assumption) (fun w' hS' => by go_simp) ?_
            simp only [Act.put, List.setIfInBounds_toArray, List.set_cons_zero, List.set_cons_succ]
            refine takeL (i := 9) (v := (.int .i64 (i : Int))) rfl (by kernel_rfl) (by kernel_rfl) (by kernel_rfl) (fun _ _ _ h => h) rfl (by assumption) (fun w' hS' => by go_simp) ?_
            simp only [Act.put, List.setIfInBounds_toArray, List.set_cons_zero, List.set_cons_succ]
            refine takeL (i := 10) (v := (.int .i64 (j : Int))) rfl (by kernel_rfl) (by kernel_rfl) (by kernel_rfl) (fun _ _ _ h => h) rfl (by assumption) (fun w' hS' => by go_simp) ?_
            simp only [Act.put, List.setIfInBounds_toArray, List.set_cons_zero, List.set_cons_succ]
            refine takeL (i := 11) (v := (.pointer (some ⟨gb, j, none⟩))) rfl (by kernel_rfl) (by kernel_rfl) (by kernel_rfl) (fun _ _ _ h => h) rfl (by assumption) (fun w' hS' => run_index_slice _ 37 22 (.tmp 162) (.tmp 165) rfl Tryd.underlying37 1 sz_u64 gb 0 nb cb rfl .i64 j rfl hjb j (by omega)) ?_
            simp only [Act.put, List.setIfInBounds_toArray, List.set_cons_zero, List.set_cons_succ]
            refine takeL (i := 12) (v := (.int .u64 z)) rfl (by kernel_rfl) (by kernel_rfl) (by kernel_rfl) (fun _ _ _ h => h) rfl (by assumption) (fun w' hS' => run_load_cell _ 22 (.tmp 166) rfl ⟨gb, j, none⟩ rfl _ hS'.1 _ Tryd.underlying22 rfl) ?_
            simp only [Act.put, List.setIfInBounds_toArray, List.set_cons_zero, List.set_cons_succ]
            refine takeL (i := 13) (v := (.slice (some ⟨gc, 0, none⟩) nc cc)) rfl (by kernel_rfl) (by kernel_rfl) (by kernel_rfl) (fun _ _ _ h => h) rfl (by assumption) (fun w' hS' => by go_simp) ?_
            simp only [Act.put, List.setIfInBounds_toArray, List.set_cons_zero, List.set_cons_succ]
            refine takeL (i := 14) (v := (.int .i64 (k : Int))) rfl (by kernel_rfl) (by kernel_rfl) (by kernel_rfl) (fun _ _ _ h => h) rfl (by assumption) (fun w' hS' => by go_simp) ?_
            simp only [Act.put, List.setIfInBounds_toArray, List.set_cons_zero, List.set_cons_succ]
            refine takeL (i := 15) (v := (.pointer (some ⟨gc, k, none⟩))) rfl (by kernel_rfl) (by kernel_rfl) (by kernel_rfl) (fun _ _ _ h => h) rfl (by assumption) (fun w' hS' => run_index_slice _ 37 22 (.tmp 168) (.tmp 169) rfl Tryd.underlying37 1 sz_u64 gc 0 nc cc rfl .i64 k rfl hlt k (by omega)) ?_
            simp only [Act.put, List.setIfInBounds_toArray, List.set_cons_zero, List.set_cons_succ]
            refine takeL (i := 16) (v := (.int .u64 y)) rfl (by kernel_rfl) (by kernel_rfl) (by kernel_rfl) (fun _ _ _ h => h) rfl (by assumption) (fun w' hS' => run_load_cell _ 22 (.tmp 170) rfl ⟨gc, k, none⟩ rfl _ hS'.2 _ Tryd.underlying22 rfl) ?_
            simp only [Act.put, List.setIfInBounds_toArray, List.set_cons_zero, List.set_cons_succ]
            refine takeL (i := 17) (v := (.bool false)) rfl (by kernel_rfl) (by kernel_rfl) (by kernel_rfl) (fun _ _ _ h => h) rfl (by assumption) (fun w' hS' => by go_simp) ?_
            simp only [Act.put, List.setIfInBounds_toArray, List.set_cons_zero, List.set_cons_succ]
            refine takeL (i := 18) (v := (.bool false)) rfl (by kernel_rfl) (by kernel_rfl) (by kernel_rfl) (fun _ _ _ h => h) rfl (by assumption) (fun w' hS' => by go_simp) ?_
            simp only [Act.put, List.setIfInBounds_toArray, List.set_cons_zero, List.set_cons_succ]
            refine wpAnyH_done (by kernel_rfl) ?_ _
            simp only [NoPan]
            refine gen_q (fun W' => Below W.heap.size W W') (gB2.out.drew) ?_
            intro W3 hb
            have gB3 := Lib.hid hb
            clear hb hS
            go_wp2
            exact ⟨⟨i, k + 1, rfl, rfl, gM2.out, gB3.out⟩, by simp [intOf]; omega⟩
        · have lia : decide ((i : Int) < (na : Int)) = false := by simp; omega
          have hnx := gM.out.next gpa.out gpb.out gpc.out (by rw [glc.out]; exact hlt)
          rw [← gyd.out, glb.out, gla.out] at hnx
          obtain ⟨hjb0, hzy0⟩ := hnx.resolve_left (fun h => hia h.1)
          clear hnx
          refine wp_nopan ?_
          refine wp_region_held (S := fun _ => True) (by kernel_rfl) ?_
          have hS : True := trivial
          refine takeL (i := 0) (v := (.int .i64 (i : Int))) rfl (by kernel_rfl) (by kernel_rfl) (by kernel_rfl) (fun _ _ _ h => h) rfl (by assumption) (fun w' hS' => by go_simp) ?_
          simp only [Act.put, List.setIfInBounds_toArray, List.set_cons_zero, List.set_cons_succ]
          refine takeL (i := 1) (v := (.slice ala na ca)) rfl (by kernel_rfl) (by kernel_rfl) (by kernel_rfl) (fun _ _ _ h => h) rfl (by assumption) (fun w' hS' => by go_simp) ?_
          simp only [Act.put, List.setIfInBounds_toArray, List.set_cons_zero, List.set_cons_succ]
          refine takeL (i := 2) (v := (.int .i64 (na : Int))) rfl (by kernel_rfl) (by kernel_rfl) (by kernel_rfl) (fun _ _ _ h => h) rfl (by assumption) (fun w' hS' => by go_simp) ?_
          simp only [Act.put, List.setIfInBounds_toArray, List.set_cons_zero, List.set_cons_succ]
          refine takeL (i := 3) (v := (.bool false)) rfl (by kernel_rfl) (by kernel_rfl) (by kernel_rfl) (fun _ _ _ h => h) rfl (by assumption) (fun w' hS' => by go_simp) ?_
          simp only [Act.put, List.setIfInBounds_toArray, List.set_cons_zero, List.set_cons_succ]
          refine takeL (i := 4) (v := (.bool false)) rfl (by kernel_rfl) (by kernel_rfl) (by kernel_rfl) (fun _ _ _ h => h) rfl (by assumption) (fun w' hS' => by go_simp) ?_
          simp only [Act.put, List.setIfInBounds_toArray, List.set_cons_zero, List.set_cons_succ]
          refine skipL (i := 5) rfl (by kernel_rfl) (by kernel_rfl) (by kernel_rfl) (fun _ _ _ h => h) rfl (by assumption) ?_
          simp only [Act.put, List.setIfInBounds_toArray, List.set_cons_zero, List.set_cons_succ]
          refine skipL (i := 6) rfl (by kernel_rfl) (by kernel_rfl) (by kernel_rfl) (fun _ _ _ h => h) rfl (by assumption) ?_
          simp only [Act.put, List.setIfInBounds_toArray, List.set_cons_zero, List.set_cons_succ]
          refine skipL (i := 7) rfl (by kernel_rfl) (by kernel_rfl) (by kernel_rfl) (fun _ _ _ h => h) rfl (by assumption) ?_
          simp only [Act.put, List.setIfInBounds_toArray, List.set_cons_zero, List.set_cons_succ]
          refine skipL (i := 8) rfl (by kernel_rfl) (by kernel_rfl) (by kernel_rfl) (fun _ _ _ h => h) rfl (by assumption) ?_
          simp only [Act.put, List.setIfInBounds_toArray, List.set_cons_zero, List.set_cons_succ]
          refine skipL (i := 9) rfl (by kernel_rfl) (by kernel_rfl) (by kernel_rfl) (fun _ _ _ h => h) rfl (by assumption) ?_
          simp only [Act.put, List.setIfInBounds_toArray, List.set_cons_zero, List.set_cons_succ]
          refine skipL (i := 10) rfl (by kernel_rfl) (by kernel_rfl) (by kernel_rfl) (fun _ _ _ h => h) rfl (by assumption) ?_
          simp only [Act.put, List.setIfInBounds_toArray, List.set_cons_zero, List.set_cons_succ]
          refine skipL (i := 11) rfl (by kernel_rfl) (by kernel_rfl) (by kernel_rfl) (fun _ _ _ h => h) rfl (by assumption) ?_
          simp only [Act.put, List.setIfInBounds_toArray, List.set_cons_zero, List.set_cons_succ]
          refine skipL (i := 12) rfl (by kernel_rfl) (by kernel_rfl) (by kernel_rfl) (fun _ _ _ h => h) rfl (by assumption) ?_
          simp only [Act.put, List.setIfInBounds_toArray, List.set_cons_zero, List.set_cons_succ]
          refine skipL (i := 13) rfl (by kernel_rfl) (by kernel_rfl) (by kernel_rfl) (fun _ _ _ h => h) rfl (by assumption) ?_
          simp only [Act.put, List.setIfInBounds_toArray, List.set_cons_zero, List.set_cons_succ]
          refine takeL (i := 14) (v := (.bool false)) rfl (by kernel_rfl) (by kernel_rfl) (by kernel_rfl) (fun _ _ _ h => h) rfl (by assumption) (fun w' hS' => by go_simp) ?_
          simp only [Act.put, List.setIfInBounds_toArray, List.set_cons_zero, List.set_cons_succ]
          refine wpAnyH_done (by kernel_rfl) ?_ _
          simp only [NoPan]
          refine gen_q (fun W' => Below W.heap.size W W') (gB1.out.drew) ?_
          intro W2 hb
          have gB2 := Lib.hid hb
          clear hb hS
          go_wp2
          obtain ⟨j, hj⟩ : ∃ j, j = k - i := ⟨_, rfl⟩
          have gM2 := Lib.hid (gM.out.stepB (by rw [glc.out]; exact hlt) (by rw [glb.out]; exact hjb0) (by rw [hzy0, gyd.out]))
          rw [← hj] at hjb0 hzy0
          have hjb : j < nb := hjb0
          have wj : IntKind.i64.wrap ((k : Int) - (i : Int)) = (j : Int) := by rw [IntKind.wrap_i64]; omega
          have ljb : decide ((j : Int) ≥ (nb : Int)) = false := by simp; omega
          obtain ⟨gb, rfl, hz0⟩ := grb.out j hjb
          have hz : W2.cell? ⟨gb, j, none⟩ = some (.int .u64 ((msort lb).getD j 0)) := (gB2.out.cell (block_lt_of_cell hz0)).trans hz0
          obtain ⟨z, hzd⟩ : ∃ z, z = (msort lb).getD j 0 := ⟨_, rfl⟩
          rw [← hzd] at hz hzy0
          have gz2 := Lib.hid hz
          have gy2 := Lib.hid (show W2.cell? ⟨gc, k, none⟩ = some (.int .u64 y) from (gB2.out.cell gcW).trans gyW.out)
          have hzy : (z != y) = false := by rw [hzy0]; simp
          clear hz hzd hz0 hj hjb0 hzy0
          refine wp_nopan ?_
          refine wp_region_held (S := fun w' => w'.cell? ⟨gb, j, none⟩ = some (.int .u64 z) ∧ w'.cell? ⟨gc, k, none⟩ = some (.int .u64 y)) (by kernel_rfl) ?_
          have hS : ({ W2 with drawn := W2.drawn + 1 } : World).cell? ⟨gb, j, none⟩ = some (.int .u64 z) ∧ ({ W2 with drawn := W2.drawn + 1 } : World).cell? ⟨gc, k, none⟩ = some (.int .u64 y) := ⟨gz2.out, gy2.out⟩
          refine takeL (i := 0) (v := (.int .i64 (k : Int))) rfl (by kernel_rfl) (by kernel_rfl) (by kernel_rfl) (fun _ _ _ h => h) rfl (by assumption) (fun w' hS' => by go_simp) ?_
          simp only [Act.put, List.setIfInBounds_toArray, List.set_cons_zero, List.set_cons_succ]
          refine takeL (i := 1) (v := (.int .i64 (i : Int))) rfl (by kernel_rfl) (by kernel_rfl) (by kernel_rfl) (fun _ _ _ h => h) rfl (by assumption) (fun w' hS' => by go_simp) ?_
          simp only [Act.put, List.setIfInBounds_toArray, List.set_cons_zero, List.set_cons_succ]
          refine takeL (i := 2) (v := (.int .i64 (j : Int))) rfl (by kernel_rfl) (by kernel_rfl) (by kernel_rfl) (fun _ _ _ h => h) rfl (by assumption) (fun w' hS' => by go_simp) ?_
          simp only [Act.put, List.setIfInBounds_toArray, List.set_cons_zero, List.set_cons_succ]
          refine takeL (i := 3) (v := (.slice (some ⟨gb, 0, none⟩) nb cb)) rfl (by kernel_rfl) (by kernel_rfl) (by kernel_rfl) (fun _ _ _ h => h) rfl (by assumption) (fun w' hS' => by go_simp) ?_
          simp only [Act.put, List.setIfInBounds_toArray, List.set_cons_zero, List.set_cons_succ]
          refine takeL (i := 4) (v := (.int .i64 (nb : Int))) rfl (by kernel_rfl) (by kernel_rfl) (by kernel_rfl) (fun _ _ _ h => h) rfl (by assumption) (fun w' hS' => by go_simp) ?_
          simp only [Act.put, List.setIfInBounds_toArray, List.set_cons_zero, List.set_cons_succ]
          refine takeL (i := 5) (v := (.bool false)) rfl (by kernel_rfl) (by kernel_rfl) (by kernel_rfl) (fun _ _ _ h => h) rfl (by assumption) (fun w' hS' => by go_simp) ?_
          simp only [Act.put, List.setIfInBounds_toArray, List.set_cons_zero, List.set_cons_succ]
          refine takeL (i := 6) (v := (.bool false)) rfl (by kernel_rfl) (by kernel_rfl) (by kernel_rfl) (fun _ _ _ h => h) rfl (by assumption) (fun w' hS' => by go_simp) ?_
          simp only [Act.put, List.setIfInBounds_toArray, List.set_cons_zero, List.set_cons_succ]
          refine takeL (i := 7) (v := (.slice (some ⟨gb, 0, none⟩) nb cb)) rfl (by kernel_rfl) (by kernel_rfl) (by kernel_rfl) (fun _ _ _ h => h) rfl (by assumption) (fun w' hS' => by go_simp) ?_
          simp only [Act.put, List.setIfInBounds_toArray, List.set_cons_zero, List.set_cons_succ]
          refine takeL (i := 8) (v := (.int .i64 (k : Int))) rfl (by kernel_rfl) (by kernel_rfl) (by kernel_rfl) (fun _ _ _ h => h) rfl (by assumption) (fun w' hS' => by go_simp) ?_
          simp only [Act.put, List.setIfInBounds_toArray, List.set_cons_zero, List.set_cons_succ]
          refine takeL (i := 9) (v := (.int .i64 (i : Int))) rfl (by kernel_rfl) (by kernel_rfl) (by kernel_rfl) (fun _ _ _ h => h) rfl (by assumption) (fun w' hS' => by go_simp) ?_
          simp only [Act.put, List.setIfInBounds_toArray, List.set_cons_zero, List.set_cons_succ]
          refine takeL (i := 10) (v := (.int .i64 (j : Int))) rfl (by kernel_rfl) (by kernel_rfl) (by kernel_rfl) (fun _ _ _ h => h) rfl (by assumption) (fun w' hS' => by go_simp) ?_
          simp only [Act.put, List.setIfInBounds_toArray, List.set_cons_zero, List.set_cons_succ]
          refine takeL (i := 11) (v := (.pointer (some ⟨gb, j, none⟩))) rfl (by kernel_rfl) (by kernel_rfl) (by kernel_rfl) (fun _ _ _ h => h) rfl (by assumption) (fun w' hS' => run_index_slice _ 37 22 (.tmp 162) (.tmp 165) rfl Tryd.underlying37 1 sz_u64 gb 0 nb cb rfl .i64 j rfl hjb j (by omega)) ?_
          simp only [Act.put, List.setIfInBounds_toArray, List.set_cons_zero, List.set_cons_succ]
          refine takeL (i := 12) (v := (.int .u64 z)) rfl (by kernel_rfl) (by kernel_rfl) (by kernel_rfl) (fun _ _ _ h => h) rfl (by assumption) (fun w' hS' => run_load_cell _ 22 (.tmp 166) rfl ⟨gb, j, none⟩ rfl _ hS'.1 _ Tryd.underlying22 rfl) ?_
          simp only [Act.put, List.setIfInBounds_toArray, List.set_cons_zero, List.set_cons_succ]
          refine takeL (i := 13) (v := (.slice (some ⟨gc, 0, none⟩) nc cc)) rfl (by kernel_rfl) (by kernel_rfl) (by kernel_rfl) (fun _ _ _ h => h) rfl (by assumption) (fun w' hS' => by go_simp) ?_
          simp only [Act.put, List.setIfInBounds_toArray, List.set_cons_zero, List.set_cons_succ]
          refine takeL (i := 14) (v := (.int .i64 (k : Int))) rfl (by kernel_rfl) (by kernel_rfl) (by kernel_rfl) (fun _ _ _ h => h) rfl (by assumption) (fun w' hS' => by go_simp) ?_
          simp only [Act.put, List.setIfInBounds_toArray, List.set_cons_zero, List.set_cons_succ]
          refine takeL (i := 15) (v := (.pointer (some ⟨gc, k, none⟩))) rfl (by kernel_rfl) (by kernel_rfl) (by kernel_rfl) (fun _ _ _ h => h) rfl (by assumption) (fun w' hS' => run_index_slice _ 37 22 (.tmp 168) (.tmp 169) rfl Tryd.underlying37 1 sz_u64 gc 0 nc cc rfl .i64 k rfl hlt k (by omega)) ?_
          simp only [Act.put, List.setIfInBounds_toArray, List.set_cons_zero, List.set_cons_succ]
          refine takeL (i := 16) (v := (.int .u64 y)) rfl (by kernel_rfl) (by kernel_rfl) (by kernel_rfl) (fun _ _ _ h => h) rfl (by assumption) (fun w' hS' => run_load_cell _ 22 (.tmp 170) rfl ⟨gc, k, none⟩ rfl _ hS'.2 _ Tryd.underlying22 rfl) ?_
          simp only [Act.put, List.setIfInBounds_toArray, List.set_cons_zero, List.set_cons_succ]
          refine takeL (i := 17) (v := (.bool false)) rfl (by kernel_rfl) (by kernel_rfl) (by kernel_rfl) (fun _ _ _ h => h) rfl (by assumption) (fun w' hS' => by go_simp) ?_
          simp only [Act.put, List.setIfInBounds_toArray, List.set_cons_zero, List.set_cons_succ]
          refine takeL (i := 18) (v := (.bool false)) rfl (by kernel_rfl) (by kernel_rfl) (by kernel_rfl) (fun _ _ _ h => h) rfl (by assumption) (fun w' hS' => by go_simp) ?_
          simp only [Act.put, List.setIfInBounds_toArray, List.set_cons_zero, List.set_cons_succ]
          refine wpAnyH_done (by kernel_rfl) ?_ _
          simp only [NoPan]
          refine gen_q (fun W' => Below W.heap.size W W') (gB2.out.drew) ?_
          intro W3 hb
          have gB3 := Lib.hid hb
          clear hb hS
          go_wp2
          exact ⟨⟨i, k + 1, rfl, rfl, gM2.out, gB3.out⟩, by simp [intOf]; omega⟩
    · have e2 : k = nc := by omega
      have lk : decide ((k : Int) < (nc : Int)) = false := by simp; omega
      have e3 : i = na := by rw [← gla.out]; exact gM.out.done (by rw [glc.out]; exact e2)
      subst e3
      go_wp2
      exact gQ.out _ _ (by kernel_rfl) gB.out
end Go.Proofs.YtfnjcpopadpmbaaDoor
