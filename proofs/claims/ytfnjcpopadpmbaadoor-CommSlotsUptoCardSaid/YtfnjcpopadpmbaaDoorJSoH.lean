/- The library's sort at uint64: siftDownOrdered. -/
/- The library's sort at uint64: heapSortOrdered. -/
import Derived.Test.YtfnjcpopadpmbaaDoorJSoI
set_option linter.unusedVariables false
set_option linter.unusedSimpArgs false
set_option linter.unnecessarySimpa false
namespace Go.Proofs.YtfnjcpopadpmbaaDoor
open Go.RowKit BigFrame
set_option maxRecDepth 100000
/-- c is a child of k. -/
def Chi (k c : Nat) : Prop := c = 2 * k + 1 ∨ c = 2 * k + 2
/-- No child is above its parent, from lo on, below hi; the heap begins at f. -/
def Hp (lo hi f : Nat) (L : List Int) : Prop := ∀ k c, lo ≤ k → Chi k c → c < hi → L.getD (f + c) 0 ≤ L.getD (f + k) 0
/-- A heap but for r. -/
structure HpX (lo hi f r : Nat) (L : List Int) : Prop where
  dom : ∀ k c, lo ≤ k → k ≠ r → Chi k c → c < hi → L.getD (f + c) 0 ≤ L.getD (f + k) 0
  up : ∀ k c, lo ≤ k → Chi k r → Chi r c → c < hi → L.getD (f + c) 0 ≤ L.getD (f + k) 0
theorem HpX.start {lo hi f : Nat} {L : List Int} (h : Hp (lo + 1) hi f L) : HpX lo hi f lo L :=
  ⟨fun k c h1 h2 h3 h4 => h k c (by omega) h3 h4, fun k c h1 h2 => by unfold Chi at h2; omega⟩
theorem HpX.fin {lo hi f r : Nat} {L : List Int} (h : HpX lo hi f r L) (hr : ∀ c, Chi r c → c < hi → L.getD (f + c) 0 ≤ L.getD (f + r) 0) : Hp lo hi f L := fun k c h1 h2 h3 => by
  by_cases e : k = r
  · rw [e] at h2 ⊢; exact hr c h2 h3
  · exact h.dom k c h1 e h2 h3
theorem HpX.step {lo hi f r d : Nat} {L : List Int} (h : HpX lo hi f r L) (hlo : lo ≤ r) (hd : Chi r d) (hdh : d < hi) (hl : f + hi ≤ L.length) (hlt : L.getD (f + r) 0 < L.getD (f + d) 0) (hm : ∀ c, Chi r c → c < hi → L.getD (f + c) 0 ≤ L.getD (f + d) 0) : HpX lo hi f d (swp L (f + r) (f + d)) := by
  have hd' := hd
  unfold Chi at hd'
  have g : ∀ k, k < hi → (swp L (f + r) (f + d)).getD (f + k) 0 = if k = d then L.getD (f + r) 0 else if k = r then L.getD (f + d) 0 else L.getD (f + k) 0 := fun k _ => by
    rw [swp_get _ _ _ _ (by omega) (by omega)]
    by_cases e1 : k = d
    · rw [if_pos e1, if_pos (by omega)]
    · rw [if_neg e1, if_neg (by omega)]
      by_cases e2 : k = r
      · rw [if_pos e2, if_pos (by omega)]
      · rw [if_neg e2, if_neg (by omega)]
  refine ⟨fun k c h1 h2 h3 h4 => ?_, fun k c h1 h2 h3 h4 => ?_⟩
  · have h3' := h3
    unfold Chi at h3'
    rw [g c h4, g k (by omega), if_neg h2]
    by_cases e1 : c = d
    · rw [if_pos e1, if_pos (by omega)]
      omega
    · rw [if_neg e1]
      by_cases e2 : k = r
      · rw [if_pos e2, if_neg (by omega)]
        exact hm c (e2 ▸ h3) h4
      · rw [if_neg e2]
        by_cases e3 : c = r
        · rw [if_pos e3]
          exact h.up k d h1 (e3 ▸ h3) hd hdh
        · rw [if_neg e3]
          exact h.dom k c h1 e2 h3 h4
  · unfold Chi at h2 h3
    have e : k = r := by omega
    rw [g c h4, g k (by omega), if_neg (by omega), if_neg (by omega), if_neg (by omega), if_pos e]
    exact h.dom d c (by omega) (by omega) (by unfold Chi; exact h3) h4
set_option maxHeartbeats 32000000 in
theorem sift_any (base g n cap lo hi f : Nat) (l : List Int) (w : World) (hO0 : OwU base (.slice (some ⟨g, 0, none⟩) n cap) l w) (hl0 : l.length = n) (hlo : lo ≤ hi) (hfn : f + hi ≤ n) (hn : n ≤ 1000000) (hH0 : Hp (lo + 1) hi f l) :
    Calls Tryd.prog 63 #[.slice (some ⟨g, 0, none⟩) n cap, .int .i64 (lo : Int), .int .i64 (hi : Int), .int .i64 (f : Int)] w fun e w' => e = .returned (.tuple #[]) ∧ ∃ (l' : List Int), OwU base (.slice (some ⟨g, 0, none⟩) n cap) l' w' ∧ SegP f (f + hi) l l' ∧ Hp lo hi f l' ∧ Apart g w w' := by
  have hO := Lib.hid hO0
  have hl := Lib.hid hl0
  have hH := Lib.hid hH0
  clear hO0 hl0 hH0
  go_enter Tryd.func63, Tryd.ntmps63
  go_wp2
  go_loopw [8] (fun vr wr => ∃ (r : Nat) (L : List Int), lo ≤ r ∧ r ≤ hi ∧ vr = .int .i64 (r : Int) ∧ OwU base (.slice (some ⟨g, 0, none⟩) n cap) L wr ∧ SegP f (f + hi) l L ∧ HpX lo hi f r L ∧ Apart g w wr) (fun vr _ => hi - (intOf vr).toNat)
  case atStart => exact ⟨lo, l, Nat.le_refl _, hlo, rfl, hO.out, SegP.refl _ _ _, HpX.start hH.out, Apart.refl _ _⟩
  case round =>
    obtain ⟨r, L, r1, r2, rfl, o1, s1, x1, a1'⟩ := hrel
    have gO := Lib.hid o1
    have gs := Lib.hid s1
    have gX := Lib.hid x1
    have gA := Lib.hid a1'
    have gl := Lib.hid (s1.len.trans hl.out)
    clear o1 s1 x1 a1'
    obtain ⟨rr, hrr⟩ : ∃ rr, rr = 2 * r := ⟨_, rfl⟩
    obtain ⟨c, hc⟩ : ∃ c, c = 2 * r + 1 := ⟨_, rfl⟩
    obtain ⟨c1, hc1⟩ : ∃ c1, c1 = c + 1 := ⟨_, rfl⟩
    have wr2 : IntKind.i64.wrap (2 * (r : Int)) = (rr : Int) := by rw [IntKind.wrap_i64]; omega
    have wc : IntKind.i64.wrap ((rr : Int) + 1) = (c : Int) := by rw [IntKind.wrap_i64]; omega
    have wc1 : IntKind.i64.wrap ((c : Int) + 1) = (c1 : Int) := by rw [IntKind.wrap_i64]; omega
    by_cases h0 : hi ≤ c
    · have gc := Lib.hid hc
      clear hrr hc hc1
      have lc : decide ((c : Int) ≥ (hi : Int)) = true := by simp; omega
      go_wp2
      exact ret_none rfl rfl ⟨rfl, L, gO.out, gs.out, gX.out.fin (fun e he hh => by have e1 := gc.out; unfold Chi at he; omega), gA.out⟩
    · have lc : decide ((c : Int) ≥ (hi : Int)) = false := by simp; omega
      obtain ⟨fr, hfr⟩ : ∃ fr, fr = f + r := ⟨_, rfl⟩
      obtain ⟨fc, hfc⟩ : ∃ fc, fc = f + c := ⟨_, rfl⟩
      obtain ⟨fc1, hfc1⟩ : ∃ fc1, fc1 = f + c1 := ⟨_, rfl⟩
      have wfr : IntKind.i64.wrap ((f : Int) + (r : Int)) = (fr : Int) := by rw [IntKind.wrap_i64]; omega
      have wfc : IntKind.i64.wrap ((f : Int) + (c : Int)) = (fc : Int) := by rw [IntKind.wrap_i64]; omega
      have wfc1 : IntKind.i64.wrap ((f : Int) + (c1 : Int)) = (fc1 : Int) := by rw [IntKind.wrap_i64]; omega
      have wfc2 : IntKind.i64.wrap ((fc : Int) + 1) = (fc1 : Int) := by rw [IntKind.wrap_i64]; omega
      have hfrn : fr < n := by omega
      have hfcn : fc < n := by omega
      have gr0 := Lib.hid hfr
      have gc0 := Lib.hid hfc
      have gc10 := Lib.hid hfc1
      have gc := Lib.hid hc
      have gc1 := Lib.hid hc1
      clear hrr hfr hfc hfc1 hc hc1
      by_cases h1 : c1 < hi
      · have lc1 : decide ((c1 : Int) < (hi : Int)) = true := by simpa using h1
        have hfc1n : fc1 < n := by have e5 := gc10.out; omega
        have cx := gO.out.cell fc (by rw [gl.out]; exact hfcn)
        have cy := gO.out.cell fc1 (by rw [gl.out]; exact hfc1n)
        obtain ⟨vx, hvx⟩ : ∃ v, v = L.getD fc 0 := ⟨_, rfl⟩
        obtain ⟨vy, hvy⟩ : ∃ v, v = L.getD fc1 0 := ⟨_, rfl⟩
        rw [← hvx] at cx
        rw [← hvy] at cy
        have gvx := Lib.hid hvx
        have gvy := Lib.hid hvy
        have gcx := Lib.hid cx
        have gcy := Lib.hid cy
        clear cx cy hvx hvy
        go_wp2
        refine wp_nopan ?_
        refine wp_region_held (S := fun w' => w'.cell? ⟨g, fc, none⟩ = some (.int .u64 vx) ∧ w'.cell? ⟨g, fc1, none⟩ = some (.int .u64 vy)) (by kernel_rfl) ?_
        have hS : ({ wr with drawn := wr.drawn + 1 } : World).cell? ⟨g, fc, none⟩ = some (.int .u64 vx) ∧ ({ wr with drawn := wr.drawn + 1 } : World).cell? ⟨g, fc1, none⟩ = some (.int .u64 vy) := ⟨gcx.out, gcy.out⟩
        refine takeL (i := 0) (v := (.int .i64 (c : Int))) rfl (by kernel_rfl) (by kernel_rfl) (by kernel_rfl) (fun _ _ _ h => h) rfl (by assumption) (fun w' hS' => by go_simp) ?_
        simp only [Act.put, List.setIfInBounds_toArray, List.set_cons_zero, List.set_cons_succ]
        refine takeL (i := 1) (v := (.int .i64 (c1 : Int))) rfl (by kernel_rfl) (by kernel_rfl) (by kernel_rfl) (fun _ _ _ h => h) rfl (by assumption) (fun w' hS' => by go_simp) ?_
        simp only [Act.put, List.setIfInBounds_toArray, List.set_cons_zero, List.set_cons_succ]
        refine takeL (i := 2) (v := (.int .i64 (hi : Int))) rfl (by kernel_rfl) (by kernel_rfl) (by kernel_rfl) (fun _ _ _ h => h) rfl (by assumption) (fun w' hS' => by go_simp) ?_
        simp only [Act.put, List.setIfInBounds_toArray, List.set_cons_zero, List.set_cons_succ]
        refine takeL (i := 3) (v := (.bool true)) rfl (by kernel_rfl) (by kernel_rfl) (by kernel_rfl) (fun _ _ _ h => h) rfl (by assumption) (fun w' hS' => by go_simp) ?_
        simp only [Act.put, List.setIfInBounds_toArray, List.set_cons_zero, List.set_cons_succ]
        refine takeL (i := 4) (v := (.bool true)) rfl (by kernel_rfl) (by kernel_rfl) (by kernel_rfl) (fun _ _ _ h => h) rfl (by assumption) (fun w' hS' => by go_simp) ?_
        simp only [Act.put, List.setIfInBounds_toArray, List.set_cons_zero, List.set_cons_succ]
        refine takeL (i := 5) (v := (.slice (some ⟨g, 0, none⟩) n cap)) rfl (by kernel_rfl) (by kernel_rfl) (by kernel_rfl) (fun _ _ _ h => h) rfl (by assumption) (fun w' hS' => by go_simp) ?_
        simp only [Act.put, List.setIfInBounds_toArray, List.set_cons_zero, List.set_cons_succ]
        refine takeL (i := 6) (v := (.int .i64 (f : Int))) rfl (by kernel_rfl) (by kernel_rfl) (by kernel_rfl) (fun _ _ _ h => h) rfl (by assumption) (fun w' hS' => by go_simp) ?_
        simp only [Act.put, List.setIfInBounds_toArray, List.set_cons_zero, List.set_cons_succ]
        refine takeL (i := 7) (v := (.int .i64 (c : Int))) rfl (by kernel_rfl) (by kernel_rfl) (by kernel_rfl) (fun _ _ _ h => h) rfl (by assumption) (fun w' hS' => by go_simp) ?_
        simp only [Act.put, List.setIfInBounds_toArray, List.set_cons_zero, List.set_cons_succ]
        refine takeL (i := 8) (v := (.int .i64 (fc : Int))) rfl (by kernel_rfl) (by kernel_rfl) (by kernel_rfl) (fun _ _ _ h => h) rfl (by assumption) (fun w' hS' => by go_simp) ?_
        simp only [Act.put, List.setIfInBounds_toArray, List.set_cons_zero, List.set_cons_succ]
        refine takeL (i := 9) (v := (.pointer (some ⟨g, fc, none⟩))) rfl (by kernel_rfl) (by kernel_rfl) (by kernel_rfl) (fun _ _ _ h => h) rfl (by assumption) (fun w' hS' => run_index_slice _ 37 22 (.tmp 22) (.tmp 25) rfl Tryd.underlying37 1 sz_u64 g 0 n cap rfl .i64 fc rfl hfcn fc (by omega)) ?_
        simp only [Act.put, List.setIfInBounds_toArray, List.set_cons_zero, List.set_cons_succ]
        refine takeL (i := 10) (v := (.int .u64 vx)) rfl (by kernel_rfl) (by kernel_rfl) (by kernel_rfl) (fun _ _ _ h => h) rfl (by assumption) (fun w' hS' => run_load_cell _ 22 (.tmp 26) rfl ⟨g, fc, none⟩ rfl _ hS'.1 _ Tryd.underlying22 rfl) ?_
        simp only [Act.put, List.setIfInBounds_toArray, List.set_cons_zero, List.set_cons_succ]
        refine takeL (i := 11) (v := (.slice (some ⟨g, 0, none⟩) n cap)) rfl (by kernel_rfl) (by kernel_rfl) (by kernel_rfl) (fun _ _ _ h => h) rfl (by assumption) (fun w' hS' => by go_simp) ?_
        simp only [Act.put, List.setIfInBounds_toArray, List.set_cons_zero, List.set_cons_succ]
        refine takeL (i := 12) (v := (.int .i64 (f : Int))) rfl (by kernel_rfl) (by kernel_rfl) (by kernel_rfl) (fun _ _ _ h => h) rfl (by assumption) (fun w' hS' => by go_simp) ?_
        simp only [Act.put, List.setIfInBounds_toArray, List.set_cons_zero, List.set_cons_succ]
        refine takeL (i := 13) (v := (.int .i64 (c : Int))) rfl (by kernel_rfl) (by kernel_rfl) (by kernel_rfl) (fun _ _ _ h => h) rfl (by assumption) (fun w' hS' => by go_simp) ?_
        simp only [Act.put, List.setIfInBounds_toArray, List.set_cons_zero, List.set_cons_succ]
        refine takeL (i := 14) (v := (.int .i64 (fc : Int))) rfl (by kernel_rfl) (by kernel_rfl) (by kernel_rfl) (fun _ _ _ h => h) rfl (by assumption) (fun w' hS' => by go_simp) ?_
        simp only [Act.put, List.setIfInBounds_toArray, List.set_cons_zero, List.set_cons_succ]
        refine takeL (i := 15) (v := (.int .i64 (fc1 : Int))) rfl (by kernel_rfl) (by kernel_rfl) (by kernel_rfl) (fun _ _ _ h => h) rfl (by assumption) (fun w' hS' => by go_simp) ?_
        simp only [Act.put, List.setIfInBounds_toArray, List.set_cons_zero, List.set_cons_succ]
        refine takeL (i := 16) (v := (.pointer (some ⟨g, fc1, none⟩))) rfl (by kernel_rfl) (by kernel_rfl) (by kernel_rfl) (fun _ _ _ h => h) rfl (by assumption) (fun w' hS' => run_index_slice _ 37 22 (.tmp 28) (.tmp 32) rfl Tryd.underlying37 1 sz_u64 g 0 n cap rfl .i64 fc1 rfl hfc1n fc1 (by omega)) ?_
        simp only [Act.put, List.setIfInBounds_toArray, List.set_cons_zero, List.set_cons_succ]
        refine takeL (i := 17) (v := (.int .u64 vy)) rfl (by kernel_rfl) (by kernel_rfl) (by kernel_rfl) (fun _ _ _ h => h) rfl (by assumption) (fun w' hS' => run_load_cell _ 22 (.tmp 33) rfl ⟨g, fc1, none⟩ rfl _ hS'.2 _ Tryd.underlying22 rfl) ?_
        simp only [Act.put, List.setIfInBounds_toArray, List.set_cons_zero, List.set_cons_succ]
        refine oneL (i := 18) rfl (by kernel_rfl) rfl (wp_call 53 #[.int .u64 vx, .int .u64 vy] (by go_simp) _ _ (less_any vx vy _) ?_)
        rintro W2 rfl
        refine ⟨hS, ?_⟩
        simp only [Act.put, List.setIfInBounds_toArray, List.set_cons_zero, List.set_cons_succ]
        obtain ⟨bb, hbb⟩ : ∃ b, b = decide (vx < vy) := ⟨_, rfl⟩
        rw [← hbb]
        have gbb := Lib.hid hbb
        clear hbb
        refine takeL (i := 19) (v := (.bool bb)) rfl (by kernel_rfl) (by kernel_rfl) (by kernel_rfl) (fun _ _ _ h => h) rfl (by assumption) (fun w' hS' => by go_simp) ?_
        simp only [Act.put, List.setIfInBounds_toArray, List.set_cons_zero, List.set_cons_succ]
        refine wpAnyH_done (by kernel_rfl) ?_ _
        simp only [NoPan]
        clear hS
        refine gen_q (fun W2 => OwU base (.slice (some ⟨g, 0, none⟩) n cap) L W2 ∧ Apart g w W2) ⟨gO.out.later ((Below.refl _ _).drew), gA.out.trans (Apart.begin g wr)⟩ ?_
        rintro WT ⟨o2, a2⟩
        have gT := Lib.hid o2
        have gAT := Lib.hid a2
        clear o2 a2
        cases bb with
        | true =>
          have ht : vx < vy := by simpa using gbb.out
          rw [gvy.out, gvx.out, gc0.out, gc10.out] at ht
          have gt := Lib.hid ht
          clear ht
          have gm := Lib.hid (show ∀ e, Chi r e → e < hi → L.getD (f + e) 0 ≤ L.getD (f + c1) 0 from fun e he hh => by
              have h3 := gt.out
              have e1 := gc.out
              have e2 := gc1.out
              unfold Chi at he
              rcases (show e = c ∨ e = c1 by have e1 := gc.out; have e2 := gc1.out; have e3 := gr0.out; have e4 := gc0.out; have e5 := gc10.out; omega) with h | h
              · rw [h]; omega
              · rw [h]; exact Int.le_refl _)
          have hcd : Chi r c1 := (by have e1 := gc.out; have e2 := gc1.out; have e3 := gr0.out; have e4 := gc0.out; have e5 := gc10.out; unfold Chi; omega)
          have gfd := Lib.hid (show fc1 = f + c1 from by have e1 := gc.out; have e2 := gc1.out; have e3 := gr0.out; have e4 := gc0.out; have e5 := gc10.out; omega)
          have gfr := gr0
          have cx := gT.out.cell fr (by rw [gl.out]; exact hfrn)
          have cy := gT.out.cell fc1 (by rw [gl.out]; exact hfc1n)
          obtain ⟨ux, hux⟩ : ∃ v, v = L.getD fr 0 := ⟨_, rfl⟩
          obtain ⟨uy, huy⟩ : ∃ v, v = L.getD fc1 0 := ⟨_, rfl⟩
          rw [← hux] at cx
          rw [← huy] at cy
          have gux := Lib.hid hux
          have guy := Lib.hid huy
          have gdx := Lib.hid cx
          have gdy := Lib.hid cy
          clear cx cy hux huy
          go_wp2
          refine wp_nopan ?_
          refine wp_region_held (S := fun w' => w'.cell? ⟨g, fr, none⟩ = some (.int .u64 ux) ∧ w'.cell? ⟨g, fc1, none⟩ = some (.int .u64 uy)) (by kernel_rfl) ?_
          have hS : ({ WT with drawn := WT.drawn + 1 } : World).cell? ⟨g, fr, none⟩ = some (.int .u64 ux) ∧ ({ WT with drawn := WT.drawn + 1 } : World).cell? ⟨g, fc1, none⟩ = some (.int .u64 uy) := ⟨gdx.out, gdy.out⟩
          refine takeL (i := 0) (v := (.slice (some ⟨g, 0, none⟩) n cap)) rfl (by kernel_rfl) (by kernel_rfl) (by kernel_rfl) (fun _ _ _ h => h) rfl (by assumption) (fun w' hS' => by go_simp) ?_
          simp only [Act.put, List.setIfInBounds_toArray, List.set_cons_zero, List.set_cons_succ]
          refine takeL (i := 1) (v := (.int .i64 (f : Int))) rfl (by kernel_rfl) (by kernel_rfl) (by kernel_rfl) (fun _ _ _ h => h) rfl (by assumption) (fun w' hS' => by go_simp) ?_
          simp only [Act.put, List.setIfInBounds_toArray, List.set_cons_zero, List.set_cons_succ]
          refine takeL (i := 2) (v := (.int .i64 (r : Int))) rfl (by kernel_rfl) (by kernel_rfl) (by kernel_rfl) (fun _ _ _ h => h) rfl (by assumption) (fun w' hS' => by go_simp) ?_
          simp only [Act.put, List.setIfInBounds_toArray, List.set_cons_zero, List.set_cons_succ]
          refine takeL (i := 3) (v := (.int .i64 (fr : Int))) rfl (by kernel_rfl) (by kernel_rfl) (by kernel_rfl) (fun _ _ _ h => h) rfl (by assumption) (fun w' hS' => by go_simp) ?_
          simp only [Act.put, List.setIfInBounds_toArray, List.set_cons_zero, List.set_cons_succ]
          refine takeL (i := 4) (v := (.pointer (some ⟨g, fr, none⟩))) rfl (by kernel_rfl) (by kernel_rfl) (by kernel_rfl) (fun _ _ _ h => h) rfl (by assumption) (fun w' hS' => run_index_slice _ 37 22 (.tmp 39) (.tmp 42) rfl Tryd.underlying37 1 sz_u64 g 0 n cap rfl .i64 fr rfl hfrn fr (by have e1 := gc.out; have e2 := gc1.out; have e3 := gr0.out; have e4 := gc0.out; have e5 := gc10.out; omega)) ?_
          simp only [Act.put, List.setIfInBounds_toArray, List.set_cons_zero, List.set_cons_succ]
          refine takeL (i := 5) (v := (.int .u64 ux)) rfl (by kernel_rfl) (by kernel_rfl) (by kernel_rfl) (fun _ _ _ h => h) rfl (by assumption) (fun w' hS' => run_load_cell _ 22 (.tmp 43) rfl ⟨g, fr, none⟩ rfl _ hS'.1 _ Tryd.underlying22 rfl) ?_
          simp only [Act.put, List.setIfInBounds_toArray, List.set_cons_zero, List.set_cons_succ]
          refine takeL (i := 6) (v := (.slice (some ⟨g, 0, none⟩) n cap)) rfl (by kernel_rfl) (by kernel_rfl) (by kernel_rfl) (fun _ _ _ h => h) rfl (by assumption) (fun w' hS' => by go_simp) ?_
          simp only [Act.put, List.setIfInBounds_toArray, List.set_cons_zero, List.set_cons_succ]
          refine takeL (i := 7) (v := (.int .i64 (f : Int))) rfl (by kernel_rfl) (by kernel_rfl) (by kernel_rfl) (fun _ _ _ h => h) rfl (by assumption) (fun w' hS' => by go_simp) ?_
          simp only [Act.put, List.setIfInBounds_toArray, List.set_cons_zero, List.set_cons_succ]
          refine takeL (i := 8) (v := (.int .i64 (c1 : Int))) rfl (by kernel_rfl) (by kernel_rfl) (by kernel_rfl) (fun _ _ _ h => h) rfl (by assumption) (fun w' hS' => by go_simp) ?_
          simp only [Act.put, List.setIfInBounds_toArray, List.set_cons_zero, List.set_cons_succ]
          refine takeL (i := 9) (v := (.int .i64 (fc1 : Int))) rfl (by kernel_rfl) (by kernel_rfl) (by kernel_rfl) (fun _ _ _ h => h) rfl (by assumption) (fun w' hS' => by go_simp) ?_
          simp only [Act.put, List.setIfInBounds_toArray, List.set_cons_zero, List.set_cons_succ]
          refine takeL (i := 10) (v := (.pointer (some ⟨g, fc1, none⟩))) rfl (by kernel_rfl) (by kernel_rfl) (by kernel_rfl) (fun _ _ _ h => h) rfl (by assumption) (fun w' hS' => run_index_slice _ 37 22 (.tmp 45) (.tmp 48) rfl Tryd.underlying37 1 sz_u64 g 0 n cap rfl .i64 fc1 rfl hfc1n fc1 (by have e1 := gc.out; have e2 := gc1.out; have e3 := gr0.out; have e4 := gc0.out; have e5 := gc10.out; omega)) ?_
          simp only [Act.put, List.setIfInBounds_toArray, List.set_cons_zero, List.set_cons_succ]
          refine takeL (i := 11) (v := (.int .u64 uy)) rfl (by kernel_rfl) (by kernel_rfl) (by kernel_rfl) (fun _ _ _ h => h) rfl (by assumption) (fun w' hS' => run_load_cell _ 22 (.tmp 49) rfl ⟨g, fc1, none⟩ rfl _ hS'.2 _ Tryd.underlying22 rfl) ?_
          simp only [Act.put, List.setIfInBounds_toArray, List.set_cons_zero, List.set_cons_succ]
          refine oneL (i := 12) rfl (by kernel_rfl) rfl (wp_call 53 #[.int .u64 ux, .int .u64 uy] (by go_simp) _ _ (less_any ux uy _) ?_)
          rintro W2 rfl
          refine ⟨hS, ?_⟩
          simp only [Act.put, List.setIfInBounds_toArray, List.set_cons_zero, List.set_cons_succ]
          obtain ⟨bt, hbt⟩ : ∃ b, b = decide (ux < uy) := ⟨_, rfl⟩
          rw [← hbt]
          have gbt := Lib.hid hbt
          clear hbt
          refine takeL (i := 13) (v := (.bool (!bt))) rfl (by kernel_rfl) (by kernel_rfl) (by kernel_rfl) (fun _ _ _ h => h) rfl (by assumption) (fun w' hS' => by go_simp) ?_
          simp only [Act.put, List.setIfInBounds_toArray, List.set_cons_zero, List.set_cons_succ]
          refine wpAnyH_done (by kernel_rfl) ?_ _
          simp only [NoPan]
          clear hS
          refine gen_q (fun W2 => OwU base (.slice (some ⟨g, 0, none⟩) n cap) L W2 ∧ Apart g w W2) ⟨gT.out.later ((Below.refl _ _).drew), gAT.out.trans (Apart.begin g WT)⟩ ?_
          rintro WU ⟨o2, a2⟩
          have gU := Lib.hid o2
          have gAU := Lib.hid a2
          clear o2 a2
          cases bt with
          | false =>
            have ht : uy ≤ ux := by simpa using gbt.out
            rw [guy.out, gux.out, gfd.out, gfr.out] at ht
            go_wp2
            exact ret_none0 rfl rfl ⟨rfl, L, gU.out, gs.out, gX.out.fin (fun e he hh => Int.le_trans (gm.out e he hh) ht), gAU.out⟩
          | true =>
            have ht : ux < uy := by simpa using gbt.out
            rw [guy.out, gux.out, gfd.out, gfr.out] at ht
            have hX2 := gX.out.step r1 hcd (by have e1 := gc.out; have e2 := gc1.out; have e3 := gr0.out; have e4 := gc0.out; have e5 := gc10.out; omega) (by rw [gl.out]; exact hfn) ht gm.out
            rw [← gfd.out, ← gfr.out] at hX2
            have gX2 := Lib.hid hX2
            have gs2 := Lib.hid (gs.out.swp (i := fr) (j := fc1) ⟨by have e1 := gc.out; have e2 := gc1.out; have e3 := gr0.out; have e4 := gc0.out; have e5 := gc10.out; omega, by have e1 := gc.out; have e2 := gc1.out; have e3 := gr0.out; have e4 := gc0.out; have e5 := gc10.out; omega⟩ ⟨by have e1 := gc.out; have e2 := gc1.out; have e3 := gr0.out; have e4 := gc0.out; have e5 := gc10.out; omega, by have e1 := gc.out; have e2 := gc1.out; have e3 := gr0.out; have e4 := gc0.out; have e5 := gc10.out; omega⟩ (by rw [hl.out]; exact hfn))
            have hk : hi - c1 < hi - r := by have e1 := gc.out; have e2 := gc1.out; have e3 := gr0.out; have e4 := gc0.out; have e5 := gc10.out; unfold Chi at hcd; omega
            clear hX2 ht
            go_wp2
            refine wp_nopan ?_
            refine wp_region_held (S := fun _ => True) (by kernel_rfl) ?_
            have hS : True := trivial
            have O4 := gU.out.later (w' := { WU with drawn := WU.drawn + 1 }) ((Below.refl _ _).drew)
            have cy := O4.cell fc1 (by rw [gl.out]; exact hfc1n)
            have cx := O4.cell fr (by rw [gl.out]; exact hfrn)
            refine takeL (i := 0) (v := (.slice (some ⟨g, 0, none⟩) n cap)) rfl (by kernel_rfl) (by kernel_rfl) (by kernel_rfl) (fun _ _ _ h => h) rfl (by assumption) (fun w' hS' => by go_simp) ?_
            simp only [Act.put, List.setIfInBounds_toArray, List.set_cons_zero, List.set_cons_succ]
            refine takeL (i := 1) (v := (.int .i64 (f : Int))) rfl (by kernel_rfl) (by kernel_rfl) (by kernel_rfl) (fun _ _ _ h => h) rfl (by assumption) (fun w' hS' => by go_simp) ?_
            simp only [Act.put, List.setIfInBounds_toArray, List.set_cons_zero, List.set_cons_succ]
            refine takeL (i := 2) (v := (.int .i64 (r : Int))) rfl (by kernel_rfl) (by kernel_rfl) (by kernel_rfl) (fun _ _ _ h => h) rfl (by assumption) (fun w' hS' => by go_simp) ?_
            simp only [Act.put, List.setIfInBounds_toArray, List.set_cons_zero, List.set_cons_succ]
            refine takeL (i := 3) (v := (.int .i64 (fr : Int))) rfl (by kernel_rfl) (by kernel_rfl) (by kernel_rfl) (fun _ _ _ h => h) rfl (by assumption) (fun w' hS' => by go_simp) ?_
            simp only [Act.put, List.setIfInBounds_toArray, List.set_cons_zero, List.set_cons_succ]
            refine takeL (i := 4) (v := (.slice (some ⟨g, 0, none⟩) n cap)) rfl (by kernel_rfl) (by kernel_rfl) (by kernel_rfl) (fun _ _ _ h => h) rfl (by assumption) (fun w' hS' => by go_simp) ?_
            simp only [Act.put, List.setIfInBounds_toArray, List.set_cons_zero, List.set_cons_succ]
            refine takeL (i := 5) (v := (.int .i64 (f : Int))) rfl (by kernel_rfl) (by kernel_rfl) (by kernel_rfl) (fun _ _ _ h => h) rfl (by assumption) (fun w' hS' => by go_simp) ?_
            simp only [Act.put, List.setIfInBounds_toArray, List.set_cons_zero, List.set_cons_succ]
            refine takeL (i := 6) (v := (.int .i64 (c1 : Int))) rfl (by kernel_rfl) (by kernel_rfl) (by kernel_rfl) (fun _ _ _ h => h) rfl (by assumption) (fun w' hS' => by go_simp) ?_
            simp only [Act.put, List.setIfInBounds_toArray, List.set_cons_zero, List.set_cons_succ]
            refine takeL (i := 7) (v := (.int .i64 (fc1 : Int))) rfl (by kernel_rfl) (by kernel_rfl) (by kernel_rfl) (fun _ _ _ h => h) rfl (by assumption) (fun w' hS' => by go_simp) ?_
            simp only [Act.put, List.setIfInBounds_toArray, List.set_cons_zero, List.set_cons_succ]
            refine takeL (i := 8) (v := (.slice (some ⟨g, 0, none⟩) n cap)) rfl (by kernel_rfl) (by kernel_rfl) (by kernel_rfl) (fun _ _ _ h => h) rfl (by assumption) (fun w' hS' => by go_simp) ?_
            simp only [Act.put, List.setIfInBounds_toArray, List.set_cons_zero, List.set_cons_succ]
            refine takeL (i := 9) (v := (.int .i64 (f : Int))) rfl (by kernel_rfl) (by kernel_rfl) (by kernel_rfl) (fun _ _ _ h => h) rfl (by assumption) (fun w' hS' => by go_simp) ?_
            simp only [Act.put, List.setIfInBounds_toArray, List.set_cons_zero, List.set_cons_succ]
            refine takeL (i := 10) (v := (.int .i64 (c1 : Int))) rfl (by kernel_rfl) (by kernel_rfl) (by kernel_rfl) (fun _ _ _ h => h) rfl (by assumption) (fun w' hS' => by go_simp) ?_
            simp only [Act.put, List.setIfInBounds_toArray, List.set_cons_zero, List.set_cons_succ]
            refine takeL (i := 11) (v := (.int .i64 (fc1 : Int))) rfl (by kernel_rfl) (by kernel_rfl) (by kernel_rfl) (fun _ _ _ h => h) rfl (by assumption) (fun w' hS' => by go_simp) ?_
            simp only [Act.put, List.setIfInBounds_toArray, List.set_cons_zero, List.set_cons_succ]
            refine takeL (i := 12) (v := (.pointer (some ⟨g, fc1, none⟩))) rfl (by kernel_rfl) (by kernel_rfl) (by kernel_rfl) (fun _ _ _ h => h) rfl (by assumption) (fun w' hS' => run_index_slice _ 37 22 (.tmp 61) (.tmp 64) rfl Tryd.underlying37 1 sz_u64 g 0 n cap rfl .i64 fc1 rfl hfc1n fc1 (by have e1 := gc.out; have e2 := gc1.out; have e3 := gr0.out; have e4 := gc0.out; have e5 := gc10.out; omega)) ?_
            simp only [Act.put, List.setIfInBounds_toArray, List.set_cons_zero, List.set_cons_succ]
            refine takeL (i := 14) (v := (.slice (some ⟨g, 0, none⟩) n cap)) rfl (by kernel_rfl) (by kernel_rfl) (by kernel_rfl) (fun _ _ _ h => h) rfl (by assumption) (fun w' hS' => by go_simp) ?_
            simp only [Act.put, List.setIfInBounds_toArray, List.set_cons_zero, List.set_cons_succ]
            refine takeL (i := 15) (v := (.int .i64 (f : Int))) rfl (by kernel_rfl) (by kernel_rfl) (by kernel_rfl) (fun _ _ _ h => h) rfl (by assumption) (fun w' hS' => by go_simp) ?_
            simp only [Act.put, List.setIfInBounds_toArray, List.set_cons_zero, List.set_cons_succ]
            refine takeL (i := 16) (v := (.int .i64 (r : Int))) rfl (by kernel_rfl) (by kernel_rfl) (by kernel_rfl) (fun _ _ _ h => h) rfl (by assumption) (fun w' hS' => by go_simp) ?_
            simp only [Act.put, List.setIfInBounds_toArray, List.set_cons_zero, List.set_cons_succ]
            refine takeL (i := 17) (v := (.int .i64 (fr : Int))) rfl (by kernel_rfl) (by kernel_rfl) (by kernel_rfl) (fun _ _ _ h => h) rfl (by assumption) (fun w' hS' => by go_simp) ?_
            simp only [Act.put, List.setIfInBounds_toArray, List.set_cons_zero, List.set_cons_succ]
            refine takeL (i := 18) (v := (.pointer (some ⟨g, fr, none⟩))) rfl (by kernel_rfl) (by kernel_rfl) (by kernel_rfl) (fun _ _ _ h => h) rfl (by assumption) (fun w' hS' => run_index_slice _ 37 22 (.tmp 67) (.tmp 70) rfl Tryd.underlying37 1 sz_u64 g 0 n cap rfl .i64 fr rfl hfrn fr (by have e1 := gc.out; have e2 := gc1.out; have e3 := gr0.out; have e4 := gc0.out; have e5 := gc10.out; omega)) ?_
            simp only [Act.put, List.setIfInBounds_toArray, List.set_cons_zero, List.set_cons_succ]
            refine pairL (i := 13) (k := 19) (.int .u64 (L.getD fc1 0)) (.int .u64 (L.getD fr 0)) (Wn := { WU with drawn := WU.drawn + 1 }) rfl rfl (by kernel_rfl) (by kernel_rfl) (by kernel_rfl) rfl rfl rfl rfl (run_load_cell _ 22 (.tmp 65) rfl ⟨g, fc1, none⟩ rfl _ cy _ Tryd.underlying22 rfl) (run_load_cell _ 22 (.tmp 65) rfl ⟨g, fc1, none⟩ rfl _ cy _ Tryd.underlying22 rfl) (run_load_cell _ 22 (.tmp 71) rfl ⟨g, fr, none⟩ rfl _ cx _ Tryd.underlying22 rfl) (run_load_cell _ 22 (.tmp 71) rfl ⟨g, fr, none⟩ rfl _ cx _ Tryd.underlying22 rfl) trivial trivial (by kernel_rfl) (by rfl) ?_
            simp only [Act.put, List.setIfInBounds_toArray, List.set_cons_zero, List.set_cons_succ]
            refine takeL (i := 20) (v := (.pointer (some ⟨g, fr, none⟩))) rfl (by kernel_rfl) (by kernel_rfl) (by kernel_rfl) (fun _ _ _ h => h) rfl (by assumption) (fun w' hS' => run_index_slice _ 37 22 (.tmp 53) (.tmp 56) rfl Tryd.underlying37 1 sz_u64 g 0 n cap rfl .i64 fr rfl hfrn fr (by have e1 := gc.out; have e2 := gc1.out; have e3 := gr0.out; have e4 := gc0.out; have e5 := gc10.out; omega)) ?_
            simp only [Act.put, List.setIfInBounds_toArray, List.set_cons_zero, List.set_cons_succ]
            refine oneL (i := 21) rfl (by kernel_rfl) rfl (wp_storeU (.tmp 73) (.tmp 66) rfl base g n cap fr L O4 rfl (L.getD fc1 0) rfl (by rw [gl.out]; exact hfrn) ?_)
            intro W3 hO5 hA5
            refine ⟨trivial, ?_⟩
            simp only [Act.put, List.setIfInBounds_toArray, List.set_cons_zero, List.set_cons_succ]
            refine takeL (i := 22) (v := (.pointer (some ⟨g, fc1, none⟩))) rfl (by kernel_rfl) (by kernel_rfl) (by kernel_rfl) (fun _ _ _ h => h) rfl (by assumption) (fun w' hS' => run_index_slice _ 37 22 (.tmp 57) (.tmp 60) rfl Tryd.underlying37 1 sz_u64 g 0 n cap rfl .i64 fc1 rfl hfc1n fc1 (by have e1 := gc.out; have e2 := gc1.out; have e3 := gr0.out; have e4 := gc0.out; have e5 := gc10.out; omega)) ?_
            simp only [Act.put, List.setIfInBounds_toArray, List.set_cons_zero, List.set_cons_succ]
            refine oneL (i := 23) rfl (by kernel_rfl) rfl (wp_storeU (.tmp 74) (.tmp 72) rfl base g n cap fc1 (L.set fr (L.getD fc1 0)) hO5 rfl (L.getD fr 0) rfl (by rw [List.length_set, gl.out]; exact hfc1n) ?_)
            intro W4 hO6 hA6
            refine ⟨trivial, ?_⟩
            simp only [Act.put, List.setIfInBounds_toArray, List.set_cons_zero, List.set_cons_succ]
            refine wpAnyH_done (by kernel_rfl) ?_ _
            simp only [NoPan]
            rw [swp_two] at hO6
            have hA7 := ((gAU.out.trans (Apart.begin g WU)).trans hA5).trans hA6
            refine gen_q (fun W2 => OwU base (.slice (some ⟨g, 0, none⟩) n cap) (swp L fr fc1) W2 ∧ Apart g w W2) ⟨hO6, hA7⟩ ?_
            clear hA7 hO6 hA6 hO5 hA5 O4 hS cx cy
            rintro WV ⟨o2, a2⟩
            have gV := Lib.hid o2
            have gAV := Lib.hid a2
            clear o2 a2
            go_wp2
            exact ⟨⟨c1, _, by have e1 := gc.out; have e2 := gc1.out; have e3 := gr0.out; have e4 := gc0.out; have e5 := gc10.out; unfold Chi at hcd; omega, by have e1 := gc.out; have e2 := gc1.out; have e3 := gr0.out; have e4 := gc0.out; have e5 := gc10.out; omega, rfl, gV.out, gs2.out, gX2.out, gAV.out⟩, by simpa [intOf] using hk⟩
        | false =>
          have ht : vy ≤ vx := by simpa using gbb.out
          rw [gvy.out, gvx.out, gc0.out, gc10.out] at ht
          have gt := Lib.hid ht
          clear ht
          have gm := Lib.hid (show ∀ e, Chi r e → e < hi → L.getD (f + e) 0 ≤ L.getD (f + c) 0 from fun e he hh => by
              have h3 := gt.out
              have e1 := gc.out
              have e2 := gc1.out
              unfold Chi at he
              rcases (show e = c ∨ e = c1 by have e1 := gc.out; have e2 := gc1.out; have e3 := gr0.out; have e4 := gc0.out; have e5 := gc10.out; omega) with h | h
              · rw [h]; exact Int.le_refl _
              · rw [h]; omega)
          have hcd : Chi r c := (by have e1 := gc.out; have e2 := gc1.out; have e3 := gr0.out; have e4 := gc0.out; have e5 := gc10.out; unfold Chi; omega)
          have gfd := Lib.hid (show fc = f + c from by have e1 := gc.out; have e2 := gc1.out; have e3 := gr0.out; have e4 := gc0.out; have e5 := gc10.out; omega)
          have gfr := gr0
          have cx := gT.out.cell fr (by rw [gl.out]; exact hfrn)
          have cy := gT.out.cell fc (by rw [gl.out]; exact hfcn)
          obtain ⟨ux, hux⟩ : ∃ v, v = L.getD fr 0 := ⟨_, rfl⟩
          obtain ⟨uy, huy⟩ : ∃ v, v = L.getD fc 0 := ⟨_, rfl⟩
          rw [← hux] at cx
          rw [← huy] at cy
          have gux := Lib.hid hux
          have guy := Lib.hid huy
          have gdx := Lib.hid cx
          have gdy := Lib.hid cy
          clear cx cy hux huy
          go_wp2
          refine wp_nopan ?_
          refine wp_region_held (S := fun w' => w'.cell? ⟨g, fr, none⟩ = some (.int .u64 ux) ∧ w'.cell? ⟨g, fc, none⟩ = some (.int .u64 uy)) (by kernel_rfl) ?_
          have hS : ({ WT with drawn := WT.drawn + 1 } : World).cell? ⟨g, fr, none⟩ = some (.int .u64 ux) ∧ ({ WT with drawn := WT.drawn + 1 } : World).cell? ⟨g, fc, none⟩ = some (.int .u64 uy) := ⟨gdx.out, gdy.out⟩
          refine takeL (i := 0) (v := (.slice (some ⟨g, 0, none⟩) n cap)) rfl (by kernel_rfl) (by kernel_rfl) (by kernel_rfl) (fun _ _ _ h => h) rfl (by assumption) (fun w' hS' => by go_simp) ?_
          simp only [Act.put, List.setIfInBounds_toArray, List.set_cons_zero, List.set_cons_succ]
          refine takeL (i := 1) (v := (.int .i64 (f : Int))) rfl (by kernel_rfl) (by kernel_rfl) (by kernel_rfl) (fun _ _ _ h => h) rfl (by assumption) (fun w' hS' => by go_simp) ?_
          simp only [Act.put, List.setIfInBounds_toArray, List.set_cons_zero, List.set_cons_succ]
          refine takeL (i := 2) (v := (.int .i64 (r : Int))) rfl (by kernel_rfl) (by kernel_rfl) (by kernel_rfl) (fun _ _ _ h => h) rfl (by assumption) (fun w' hS' => by go_simp) ?_
          simp only [Act.put, List.setIfInBounds_toArray, List.set_cons_zero, List.set_cons_succ]
          refine takeL (i := 3) (v := (.int .i64 (fr : Int))) rfl (by kernel_rfl) (by kernel_rfl) (by kernel_rfl) (fun _ _ _ h => h) rfl (by assumption) (fun w' hS' => by go_simp) ?_
          simp only [Act.put, List.setIfInBounds_toArray, List.set_cons_zero, List.set_cons_succ]
          refine takeL (i := 4) (v := (.pointer (some ⟨g, fr, none⟩))) rfl (by kernel_rfl) (by kernel_rfl) (by kernel_rfl) (fun _ _ _ h => h) rfl (by assumption) (fun w' hS' => run_index_slice _ 37 22 (.tmp 39) (.tmp 42) rfl Tryd.underlying37 1 sz_u64 g 0 n cap rfl .i64 fr rfl hfrn fr (by have e1 := gc.out; have e2 := gc1.out; have e3 := gr0.out; have e4 := gc0.out; have e5 := gc10.out; omega)) ?_
          simp only [Act.put, List.setIfInBounds_toArray, List.set_cons_zero, List.set_cons_succ]
          refine takeL (i := 5) (v := (.int .u64 ux)) rfl (by kernel_rfl) (by kernel_rfl) (by kernel_rfl) (fun _ _ _ h => h) rfl (by assumption) (fun w' hS' => run_load_cell _ 22 (.tmp 43) rfl ⟨g, fr, none⟩ rfl _ hS'.1 _ Tryd.underlying22 rfl) ?_
          simp only [Act.put, List.setIfInBounds_toArray, List.set_cons_zero, List.set_cons_succ]
          refine takeL (i := 6) (v := (.slice (some ⟨g, 0, none⟩) n cap)) rfl (by kernel_rfl) (by kernel_rfl) (by kernel_rfl) (fun _ _ _ h => h) rfl (by assumption) (fun w' hS' => by go_simp) ?_
          simp only [Act.put, List.setIfInBounds_toArray, List.set_cons_zero, List.set_cons_succ]
          refine takeL (i := 7) (v := (.int .i64 (f : Int))) rfl (by kernel_rfl) (by kernel_rfl) (by kernel_rfl) (fun _ _ _ h => h) rfl (by assumption) (fun w' hS' => by go_simp) ?_
          simp only [Act.put, List.setIfInBounds_toArray, List.set_cons_zero, List.set_cons_succ]
          refine takeL (i := 8) (v := (.int .i64 (c : Int))) rfl (by kernel_rfl) (by kernel_rfl) (by kernel_rfl) (fun _ _ _ h => h) rfl (by assumption) (fun w' hS' => by go_simp) ?_
          simp only [Act.put, List.setIfInBounds_toArray, List.set_cons_zero, List.set_cons_succ]
          refine takeL (i := 9) (v := (.int .i64 (fc : Int))) rfl (by kernel_rfl) (by kernel_rfl) (by kernel_rfl) (fun _ _ _ h => h) rfl (by assumption) (fun w' hS' => by go_simp) ?_
          simp only [Act.put, List.setIfInBounds_toArray, List.set_cons_zero, List.set_cons_succ]
          refine takeL (i := 10) (v := (.pointer (some ⟨g, fc, none⟩))) rfl (by kernel_rfl) (by kernel_rfl) (by kernel_rfl) (fun _ _ _ h => h) rfl (by assumption) (fun w' hS' => run_index_slice _ 37 22 (.tmp 45) (.tmp 48) rfl Tryd.underlying37 1 sz_u64 g 0 n cap rfl .i64 fc rfl hfcn fc (by have e1 := gc.out; have e2 := gc1.out; have e3 := gr0.out; have e4 := gc0.out; have e5 := gc10.out; omega)) ?_
          simp only [Act.put, List.setIfInBounds_toArray, List.set_cons_zero, List.set_cons_succ]
          refine takeL (i := 11) (v := (.int .u64 uy)) rfl (by kernel_rfl) (by kernel_rfl) (by kernel_rfl) (fun _ _ _ h => h) rfl (by assumption) (fun w' hS' => run_load_cell _ 22 (.tmp 49) rfl ⟨g, fc, none⟩ rfl _ hS'.2 _ Tryd.underlying22 rfl) ?_
          simp only [Act.put, List.setIfInBounds_toArray, List.set_cons_zero, List.set_cons_succ]
          refine oneL (i := 12) rfl (by kernel_rfl) rfl (wp_call 53 #[.int .u64 ux, .int .u64 uy] (by go_simp) _ _ (less_any ux uy _) ?_)
          rintro W2 rfl
          refine ⟨hS, ?_⟩
          simp only [Act.put, List.setIfInBounds_toArray, List.set_cons_zero, List.set_cons_succ]
          obtain ⟨bt, hbt⟩ : ∃ b, b = decide (ux < uy) := ⟨_, rfl⟩
          rw [← hbt]
          have gbt := Lib.hid hbt
          clear hbt
          refine takeL (i := 13) (v := (.bool (!bt))) rfl (by kernel_rfl) (by kernel_rfl) (by kernel_rfl) (fun _ _ _ h => h) rfl (by assumption) (fun w' hS' => by go_simp) ?_
          simp only [Act.put, List.setIfInBounds_toArray, List.set_cons_zero, List.set_cons_succ]
          refine wpAnyH_done (by kernel_rfl) ?_ _
          simp only [NoPan]
          clear hS
          refine gen_q (fun W2 => OwU base (.slice (some ⟨g, 0, none⟩) n cap) L W2 ∧ Apart g w W2) ⟨gT.out.later ((Below.refl _ _).drew), gAT.out.trans (Apart.begin g WT)⟩ ?_
          rintro WU ⟨o2, a2⟩
          have gU := Lib.hid o2
          have gAU := Lib.hid a2
          clear o2 a2
          cases bt with
          | false =>
            have ht : uy ≤ ux := by simpa using gbt.out
            rw [guy.out, gux.out, gfd.out, gfr.out] at ht
            go_wp2
            exact ret_none0 rfl rfl ⟨rfl, L, gU.out, gs.out, gX.out.fin (fun e he hh => Int.le_trans (gm.out e he hh) ht), gAU.out⟩
          | true =>
            have ht : ux < uy := by simpa using gbt.out
            rw [guy.out, gux.out, gfd.out, gfr.out] at ht
            have hX2 := gX.out.step r1 hcd (by have e1 := gc.out; have e2 := gc1.out; have e3 := gr0.out; have e4 := gc0.out; have e5 := gc10.out; omega) (by rw [gl.out]; exact hfn) ht gm.out
            rw [← gfd.out, ← gfr.out] at hX2
            have gX2 := Lib.hid hX2
            have gs2 := Lib.hid (gs.out.swp (i := fr) (j := fc) ⟨by have e1 := gc.out; have e2 := gc1.out; have e3 := gr0.out; have e4 := gc0.out; have e5 := gc10.out; omega, by have e1 := gc.out; have e2 := gc1.out; have e3 := gr0.out; have e4 := gc0.out; have e5 := gc10.out; omega⟩ ⟨by have e1 := gc.out; have e2 := gc1.out; have e3 := gr0.out; have e4 := gc0.out; have e5 := gc10.out; omega, by have e1 := gc.out; have e2 := gc1.out; have e3 := gr0.out; have e4 := gc0.out; have e5 := gc10.out; omega⟩ (by rw [hl.out]; exact hfn))
            have hk : hi - c < hi - r := by have e1 := gc.out; have e2 := gc1.out; have e3 := gr0.out; have e4 := gc0.out; have e5 := gc10.out; unfold Chi at hcd; omega
            clear hX2 ht
            go_wp2
            refine wp_nopan ?_
            refine wp_region_held (S := fun _ => True) (by kernel_rfl) ?_
            have hS : True := trivial
            have O4 := gU.out.later (w' := { WU with drawn := WU.drawn + 1 }) ((Below.refl _ _).drew)
            have cy := O4.cell fc (by rw [gl.out]; exact hfcn)
            have cx := O4.cell fr (by rw [gl.out]; exact hfrn)
            refine takeL (i := 0) (v := (.slice (some ⟨g, 0, none⟩) n cap)) rfl (by kernel_rfl) (by kernel_rfl) (by kernel_rfl) (fun _ _ _ h => h) rfl (by assumption) (fun w' hS' => by go_simp) ?_
            simp only [Act.put, List.setIfInBounds_toArray, List.set_cons_zero, List.set_cons_succ]
            refine takeL (i := 1) (v := (.int .i64 (f : Int))) rfl (by kernel_rfl) (by kernel_rfl) (by kernel_rfl) (fun _ _ _ h => h) rfl (by assumption) (fun w' hS' => by go_simp) ?_
            simp only [Act.put, List.setIfInBounds_toArray, List.set_cons_zero, List.set_cons_succ]
            refine takeL (i := 2) (v := (.int .i64 (r : Int))) rfl (by kernel_rfl) (by kernel_rfl) (by kernel_rfl) (fun _ _ _ h => h) rfl (by assumption) (fun w' hS' => by go_simp) ?_
            simp only [Act.put, List.setIfInBounds_toArray, List.set_cons_zero, List.set_cons_succ]
            refine takeL (i := 3) (v := (.int .i64 (fr : Int))) rfl (by kernel_rfl) (by kernel_rfl) (by kernel_rfl) (fun _ _ _ h => h) rfl (by assumption) (fun w' hS' => by go_simp) ?_
            simp only [Act.put, List.setIfInBounds_toArray, List.set_cons_zero, List.set_cons_succ]
            refine takeL (i := 4) (v := (.slice (some ⟨g, 0, none⟩) n cap)) rfl (by kernel_rfl) (by kernel_rfl) (by kernel_rfl) (fun _ _ _ h => h) rfl (by assumption) (fun w' hS' => by go_simp) ?_
            simp only [Act.put, List.setIfInBounds_toArray, List.set_cons_zero, List.set_cons_succ]
            refine takeL (i := 5) (v := (.int .i64 (f : Int))) rfl (by kernel_rfl) (by kernel_rfl) (by kernel_rfl) (fun _ _ _ h => h) rfl (by assumption) (fun w' hS' => by go_simp) ?_
            simp only [Act.put, List.setIfInBounds_toArray, List.set_cons_zero, List.set_cons_succ]
            refine takeL (i := 6) (v := (.int .i64 (c : Int))) rfl (by kernel_rfl) (by kernel_rfl) (by kernel_rfl) (fun _ _ _ h => h) rfl (by assumption) (fun w' hS' => by go_simp) ?_
            simp only [Act.put, List.setIfInBounds_toArray, List.set_cons_zero, List.set_cons_succ]
            refine takeL (i := 7) (v := (.int .i64 (fc : Int))) rfl (by kernel_rfl) (by kernel_rfl) (by kernel_rfl) (fun _ _ _ h => h) rfl (by assumption) (fun w' hS' => by go_simp) ?_
            simp only [Act.put, List.setIfInBounds_toArray, List.set_cons_zero, List.set_cons_succ]
            refine takeL (i := 8) (v := (.slice (some ⟨g, 0, none⟩) n cap)) rfl (by kernel_rfl) (by kernel_rfl) (by kernel_rfl) (fun _ _ _ h => h) rfl (by assumption) (fun w' hS' => by go_simp) ?_
            simp only [Act.put, List.setIfInBounds_toArray, List.set_cons_zero, List.set_cons_succ]
            refine takeL (i := 9) (v := (.int .i64 (f : Int))) rfl (by kernel_rfl) (by kernel_rfl) (by kernel_rfl) (fun _ _ _ h => h) rfl (by assumption) (fun w' hS' => by go_simp) ?_
            simp only [Act.put, List.setIfInBounds_toArray, List.set_cons_zero, List.set_cons_succ]
            refine takeL (i := 10) (v := (.int .i64 (c : Int))) rfl (by kernel_rfl) (by kernel_rfl) (by kernel_rfl) (fun _ _ _ h => h) rfl (by assumption) (fun w' hS' => by go_simp) ?_
            simp only [Act.put, List.setIfInBounds_toArray, List.set_cons_zero, List.set_cons_succ]
            refine takeL (i := 11) (v := (.int .i64 (fc : Int))) rfl (by kernel_rfl) (by kernel_rfl) (by kernel_rfl) (fun _ _ _ h => h) rfl (by assumption) (fun w' hS' => by go_simp) ?_
            simp only [Act.put, List.setIfInBounds_toArray, List.set_cons_zero, List.set_cons_succ]
            refine takeL (i := 12) (v := (.pointer (some ⟨g, fc, none⟩))) rfl (by kernel_rfl) (by kernel_rfl) (by kernel_rfl) (fun _ _ _ h => h) rfl (by assumption) (fun w' hS' => run_index_slice _ 37 22 (.tmp 61) (.tmp 64) rfl Tryd.underlying37 1 sz_u64 g 0 n cap rfl .i64 fc rfl hfcn fc (by have e1 := gc.out; have e2 := gc1.out; have e3 := gr0.out; have e4 := gc0.out; have e5 := gc10.out; omega)) ?_
            simp only [Act.put, List.setIfInBounds_toArray, List.set_cons_zero, List.set_cons_succ]
            refine takeL (i := 14) (v := (.slice (some ⟨g, 0, none⟩) n cap)) rfl (by kernel_rfl) (by kernel_rfl) (by kernel_rfl) (fun _ _ _ h => h) rfl (by assumption) (fun w' hS' => by go_simp) ?_
            simp only [Act.put, List.setIfInBounds_toArray, List.set_cons_zero, List.set_cons_succ]
            refine takeL (i := 15) (v := (.int .i64 (f : Int))) rfl (by kernel_rfl) (by kernel_rfl) (by kernel_rfl) (fun _ _ _ h => h) rfl (by assumption) (fun w' hS' => by go_simp) ?_
            simp only [Act.put, List.setIfInBounds_toArray, List.set_cons_zero, List.set_cons_succ]
            refine takeL (i := 16) (v := (.int .i64 (r : Int))) rfl (by kernel_rfl) (by kernel_rfl) (by kernel_rfl) (fun _ _ _ h => h) rfl (by assumption) (fun w' hS' => by go_simp) ?_
            simp only [Act.put, List.setIfInBounds_toArray, List.set_cons_zero, List.set_cons_succ]
            refine takeL (i := 17) (v := (.int .i64 (fr : Int))) rfl (by kernel_rfl) (by kernel_rfl) (by kernel_rfl) (fun _ _ _ h => h) rfl (by assumption) (fun w' hS' => by go_simp) ?_
            simp only [Act.put, List.setIfInBounds_toArray, List.set_cons_zero, List.set_cons_succ]
            refine takeL (i := 18) (v := (.pointer (some ⟨g, fr, none⟩))) rfl (by kernel_rfl) (by kernel_rfl) (by kernel_rfl) (fun _ _ _ h => h) rfl (by assumption) (fun w' hS' => run_index_slice _ 37 22 (.tmp 67) (.tmp 70) rfl Tryd.underlying37 1 sz_u64 g 0 n cap rfl .i64 fr rfl hfrn fr (by have e1 := gc.out; have e2 := gc1.out; have e3 := gr0.out; have e4 := gc0.out; have e5 := gc10.out; omega)) ?_
            simp only [Act.put, List.setIfInBounds_toArray, List.set_cons_zero, List.set_cons_succ]
            refine pairL (i := 13) (k := 19) (.int .u64 (L.getD fc 0)) (.int .u64 (L.getD fr 0)) (Wn := { WU with drawn := WU.drawn + 1 }) rfl rfl (by kernel_rfl) (by kernel_rfl) (by kernel_rfl) rfl rfl rfl rfl (run_load_cell _ 22 (.tmp 65) rfl ⟨g, fc, none⟩ rfl _ cy _ Tryd.underlying22 rfl) (run_load_cell _ 22 (.tmp 65) rfl ⟨g, fc, none⟩ rfl _ cy _ Tryd.underlying22 rfl) (run_load_cell _ 22 (.tmp 71) rfl ⟨g, fr, none⟩ rfl _ cx _ Tryd.underlying22 rfl) (run_load_cell _ 22 (.tmp 71) rfl ⟨g, fr, none⟩ rfl _ cx _ Tryd.underlying22 rfl) trivial trivial (by kernel_rfl) (by rfl) ?_
            simp only [Act.put, List.setIfInBounds_toArray, List.set_cons_zero, List.set_cons_succ]
            refine takeL (i := 20) (v := (.pointer (some ⟨g, fr, none⟩))) rfl (by kernel_rfl) (by kernel_rfl) (by kernel_rfl) (fun _ _ _ h => h) rfl (by assumption) (fun w' hS' => run_index_slice _ 37 22 (.tmp 53) (.tmp 56) rfl Tryd.underlying37 1 sz_u64 g 0 n cap rfl .i64 fr rfl hfrn fr (by have e1 := gc.out; have e2 := gc1.out; have e3 := gr0.out; have e4 := gc0.out; have e5 := gc10.out; omega)) ?_
            simp only [Act.put, List.setIfInBounds_toArray, List.set_cons_zero, List.set_cons_succ]
            refine oneL (i := 21) rfl (by kernel_rfl) rfl (wp_storeU (.tmp 73) (.tmp 66) rfl base g n cap fr L O4 rfl (L.getD fc 0) rfl (by rw [gl.out]; exact hfrn) ?_)
            intro W3 hO5 hA5
            refine ⟨trivial, ?_⟩
            simp only [Act.put, List.setIfInBounds_toArray, List.set_cons_zero, List.set_cons_succ]
            refine takeL (i := 22) (v := (.pointer (some ⟨g, fc, none⟩))) rfl (by kernel_rfl) (by kernel_rfl) (by kernel_rfl) (fun _ _ _ h => h) rfl (by assumption) (fun w' hS' => run_index_slice _ 37 22 (.tmp 57) (.tmp 60) rfl Tryd.underlying37 1 sz_u64 g 0 n cap rfl .i64 fc rfl hfcn fc (by have e1 := gc.out; have e2 := gc1.out; have e3 := gr0.out; have e4 := gc0.out; have e5 := gc10.out; omega)) ?_
            simp only [Act.put, List.setIfInBounds_toArray, List.set_cons_zero, List.set_cons_succ]
            refine oneL (i := 23) rfl (by kernel_rfl) rfl (wp_storeU (.tmp 74) (.tmp 72) rfl base g n cap fc (L.set fr (L.getD fc 0)) hO5 rfl (L.getD fr 0) rfl (by rw [List.length_set, gl.out]; exact hfcn) ?_)
            intro W4 hO6 hA6
            refine ⟨trivial, ?_⟩
            simp only [Act.put, List.setIfInBounds_toArray, List.set_cons_zero, List.set_cons_succ]
            refine wpAnyH_done (by kernel_rfl) ?_ _
            simp only [NoPan]
            rw [swp_two] at hO6
            have hA7 := ((gAU.out.trans (Apart.begin g WU)).trans hA5).trans hA6
            refine gen_q (fun W2 => OwU base (.slice (some ⟨g, 0, none⟩) n cap) (swp L fr fc) W2 ∧ Apart g w W2) ⟨hO6, hA7⟩ ?_
            clear hA7 hO6 hA6 hO5 hA5 O4 hS cx cy
            rintro WV ⟨o2, a2⟩
            have gV := Lib.hid o2
            have gAV := Lib.hid a2
            clear o2 a2
            go_wp2
            exact ⟨⟨c, _, by have e1 := gc.out; have e2 := gc1.out; have e3 := gr0.out; have e4 := gc0.out; have e5 := gc10.out; unfold Chi at hcd; omega, by have e1 := gc.out; have e2 := gc1.out; have e3 := gr0.out; have e4 := gc0.out; have e5 := gc10.out; omega, rfl, gV.out, gs2.out, gX2.out, gAV.out⟩, by simpa [intOf] using hk⟩
      · have lc1 : decide ((c1 : Int) < (hi : Int)) = false := by simpa using h1
        go_wp2
        refine wp_nopan ?_
        refine wp_region_held (S := fun _ => True) (by kernel_rfl) ?_
        have hS : True := trivial
        refine takeL (i := 0) (v := (.int .i64 (c : Int))) rfl (by kernel_rfl) (by kernel_rfl) (by kernel_rfl) (fun _ _ _ h => h) rfl (by assumption) (fun w' hS' => by go_simp) ?_
        simp only [Act.put, List.setIfInBounds_toArray, List.set_cons_zero, List.set_cons_succ]
        refine takeL (i := 1) (v := (.int .i64 (c1 : Int))) rfl (by kernel_rfl) (by kernel_rfl) (by kernel_rfl) (fun _ _ _ h => h) rfl (by assumption) (fun w' hS' => by go_simp) ?_
        simp only [Act.put, List.setIfInBounds_toArray, List.set_cons_zero, List.set_cons_succ]
        refine takeL (i := 2) (v := (.int .i64 (hi : Int))) rfl (by kernel_rfl) (by kernel_rfl) (by kernel_rfl) (fun _ _ _ h => h) rfl (by assumption) (fun w' hS' => by go_simp) ?_
        simp only [Act.put, List.setIfInBounds_toArray, List.set_cons_zero, List.set_cons_succ]
        refine takeL (i := 3) (v := (.bool false)) rfl (by kernel_rfl) (by kernel_rfl) (by kernel_rfl) (fun _ _ _ h => h) rfl (by assumption) (fun w' hS' => by go_simp) ?_
        simp only [Act.put, List.setIfInBounds_toArray, List.set_cons_zero, List.set_cons_succ]
        refine takeL (i := 4) (v := (.bool false)) rfl (by kernel_rfl) (by kernel_rfl) (by kernel_rfl) (fun _ _ _ h => h) rfl (by assumption) (fun w' hS' => by go_simp) ?_
        simp only [Act.put, List.setIfInBounds_toArray, List.set_cons_zero, List.set_cons_succ]
        refine skipL (i := 5) rfl (by kernel_rfl) (by kernel_rfl) (by kernel_rfl) (fun _ _ _ h => h) rfl (by assumption) ?_
        simp only [Act.put, List.setIfInBounds_toArray, List.set_cons_zero, List.set_cons_succ]
        refine skipL (i := 6) rfl (by kernel_rfl) (by kernel_rfl) (by kernel_rfl) (fun _ _ _ h => h) rfl (by assumption) ?_
        simp only [Act.put, List.setIfInBounds_toArray, List.set_cons_zero, List.set_cons_succ]
        refine skipL (i := 7) rfl (by kernel_rfl) (by kernel_rfl) (by kernel_rfl) (fun _ _ _ h => h) rfl (by assumption) ?_
        simp only [Act.put, List.setIfInBounds_toArray, List.set_cons_zero, List.set_cons_succ]
        refine skipL (i := 8) rfl (by kernel_rfl) (by kernel_rfl) (by kernel_rfl) (fun _ _ _ h => h) rfl (by assumption) ?_
        simp only [Act.put, List.setIfInBounds_toArray, List.set_cons_zero, List.set_cons_succ]
        refine skipL (i := 9) rfl (by kernel_rfl) (by kernel_rfl) (by kernel_rfl) (fun _ _ _ h => h) rfl (by assumption) ?_
        simp only [Act.put, List.setIfInBounds_toArray, List.set_cons_zero, List.set_cons_succ]
        refine skipL (i := 10) rfl (by kernel_rfl) (by kernel_rfl) (by kernel_rfl) (fun _ _ _ h => h) rfl (by assumption) ?_
        simp only [Act.put, List.setIfInBounds_toArray, List.set_cons_zero, List.set_cons_succ]
        refine skipL (i := 11) rfl (by kernel_rfl) (by kernel_rfl) (by kernel_rfl) (fun _ _ _ h => h) rfl (by assumption) ?_
        simp only [Act.put, List.setIfInBounds_toArray, List.set_cons_zero, List.set_cons_succ]
        refine skipL (i := 12) rfl (by kernel_rfl) (by kernel_rfl) (by kernel_rfl) (fun _ _ _ h => h) rfl (by assumption) ?_
        simp only [Act.put, List.setIfInBounds_toArray, List.set_cons_zero, List.set_cons_succ]
        refine skipL (i := 13) rfl (by kernel_rfl) (by kernel_rfl) (by kernel_rfl) (fun _ _ _ h => h) rfl (by assumption) ?_
        simp only [Act.put, List.setIfInBounds_toArray, List.set_cons_zero, List.set_cons_succ]
        refine skipL (i := 14) rfl (by kernel_rfl) (by kernel_rfl) (by kernel_rfl) (fun _ _ _ h => h) rfl (by assumption) ?_
        simp only [Act.put, List.setIfInBounds_toArray, List.set_cons_zero, List.set_cons_succ]
        refine skipL (i := 15) rfl (by kernel_rfl) (by kernel_rfl) (by kernel_rfl) (fun _ _ _ h => h) rfl (by assumption) ?_
        simp only [Act.put, List.setIfInBounds_toArray, List.set_cons_zero, List.set_cons_succ]
        refine skipL (i := 16) rfl (by kernel_rfl) (by kernel_rfl) (by kernel_rfl) (fun _ _ _ h => h) rfl (by assumption) ?_
        simp only [Act.put, List.setIfInBounds_toArray, List.set_cons_zero, List.set_cons_succ]
        refine skipL (i := 17) rfl (by kernel_rfl) (by kernel_rfl) (by kernel_rfl) (fun _ _ _ h => h) rfl (by assumption) ?_
        simp only [Act.put, List.setIfInBounds_toArray, List.set_cons_zero, List.set_cons_succ]
        refine skipL (i := 18) rfl (by kernel_rfl) (by kernel_rfl) (by kernel_rfl) (fun _ _ _ h => h) rfl (by assumption) ?_
        simp only [Act.put, List.setIfInBounds_toArray, List.set_cons_zero, List.set_cons_succ]
        refine takeL (i := 19) (v := (.bool false)) rfl (by kernel_rfl) (by kernel_rfl) (by kernel_rfl) (fun _ _ _ h => h) rfl (by assumption) (fun w' hS' => by go_simp) ?_
        simp only [Act.put, List.setIfInBounds_toArray, List.set_cons_zero, List.set_cons_succ]
        refine wpAnyH_done (by kernel_rfl) ?_ _
        simp only [NoPan]
        refine gen_q (fun W2 => OwU base (.slice (some ⟨g, 0, none⟩) n cap) L W2 ∧ Apart g w W2) ⟨gO.out.later ((Below.refl _ _).drew), gA.out.trans (Apart.begin g wr)⟩ ?_
        rintro WT ⟨o2, a2⟩
        have gT := Lib.hid o2
        have gAT := Lib.hid a2
        clear o2 a2 hS
        have gm := Lib.hid (show ∀ e, Chi r e → e < hi → L.getD (f + e) 0 ≤ L.getD (f + c) 0 from fun e he hh => by
            have e1 := gc.out
            have e2 := gc1.out
            unfold Chi at he
            rcases (show e = c ∨ e = c1 by have e1 := gc.out; have e2 := gc1.out; have e3 := gr0.out; have e4 := gc0.out; have e5 := gc10.out; omega) with h | h
            · rw [h]; exact Int.le_refl _
            · omega)
        have hcd : Chi r c := (by have e1 := gc.out; have e2 := gc1.out; have e3 := gr0.out; have e4 := gc0.out; have e5 := gc10.out; unfold Chi; omega)
        have gfd := Lib.hid (show fc = f + c from by have e1 := gc.out; have e2 := gc1.out; have e3 := gr0.out; have e4 := gc0.out; have e5 := gc10.out; omega)
        have gfr := gr0
        have cx := gT.out.cell fr (by rw [gl.out]; exact hfrn)
        have cy := gT.out.cell fc (by rw [gl.out]; exact hfcn)
        obtain ⟨ux, hux⟩ : ∃ v, v = L.getD fr 0 := ⟨_, rfl⟩
        obtain ⟨uy, huy⟩ : ∃ v, v = L.getD fc 0 := ⟨_, rfl⟩
        rw [← hux] at cx
        rw [← huy] at cy
        have gux := Lib.hid hux
        have guy := Lib.hid huy
        have gdx := Lib.hid cx
        have gdy := Lib.hid cy
        clear cx cy hux huy
        go_wp2
        refine wp_nopan ?_
        refine wp_region_held (S := fun w' => w'.cell? ⟨g, fr, none⟩ = some (.int .u64 ux) ∧ w'.cell? ⟨g, fc, none⟩ = some (.int .u64 uy)) (by kernel_rfl) ?_
        have hS : ({ WT with drawn := WT.drawn + 1 } : World).cell? ⟨g, fr, none⟩ = some (.int .u64 ux) ∧ ({ WT with drawn := WT.drawn + 1 } : World).cell? ⟨g, fc, none⟩ = some (.int .u64 uy) := ⟨gdx.out, gdy.out⟩
        refine takeL (i := 0) (v := (.slice (some ⟨g, 0, none⟩) n cap)) rfl (by kernel_rfl) (by kernel_rfl) (by kernel_rfl) (fun _ _ _ h => h) rfl (by assumption) (fun w' hS' => by go_simp) ?_
        simp only [Act.put, List.setIfInBounds_toArray, List.set_cons_zero, List.set_cons_succ]
        refine takeL (i := 1) (v := (.int .i64 (f : Int))) rfl (by kernel_rfl) (by kernel_rfl) (by kernel_rfl) (fun _ _ _ h => h) rfl (by assumption) (fun w' hS' => by go_simp) ?_
        simp only [Act.put, List.setIfInBounds_toArray, List.set_cons_zero, List.set_cons_succ]
        refine takeL (i := 2) (v := (.int .i64 (r : Int))) rfl (by kernel_rfl) (by kernel_rfl) (by kernel_rfl) (fun _ _ _ h => h) rfl (by assumption) (fun w' hS' => by go_simp) ?_
        simp only [Act.put, List.setIfInBounds_toArray, List.set_cons_zero, List.set_cons_succ]
        refine takeL (i := 3) (v := (.int .i64 (fr : Int))) rfl (by kernel_rfl) (by kernel_rfl) (by kernel_rfl) (fun _ _ _ h => h) rfl (by assumption) (fun w' hS' => by go_simp) ?_
        simp only [Act.put, List.setIfInBounds_toArray, List.set_cons_zero, List.set_cons_succ]
        refine takeL (i := 4) (v := (.pointer (some ⟨g, fr, none⟩))) rfl (by kernel_rfl) (by kernel_rfl) (by kernel_rfl) (fun _ _ _ h => h) rfl (by assumption) (fun w' hS' => run_index_slice _ 37 22 (.tmp 39) (.tmp 42) rfl Tryd.underlying37 1 sz_u64 g 0 n cap rfl .i64 fr rfl hfrn fr (by have e1 := gc.out; have e2 := gc1.out; have e3 := gr0.out; have e4 := gc0.out; have e5 := gc10.out; omega)) ?_
        simp only [Act.put, List.setIfInBounds_toArray, List.set_cons_zero, List.set_cons_succ]
        refine takeL (i := 5) (v := (.int .u64 ux)) rfl (by kernel_rfl) (by kernel_rfl) (by kernel_rfl) (fun _ _ _ h => h) rfl (by assumption) (fun w' hS' => run_load_cell _ 22 (.tmp 43) rfl ⟨g, fr, none⟩ rfl _ hS'.1 _ Tryd.underlying22 rfl) ?_
        simp only [Act.put, List.setIfInBounds_toArray, List.set_cons_zero, List.set_cons_succ]
        refine takeL (i := 6) (v := (.slice (some ⟨g, 0, none⟩) n cap)) rfl (by kernel_rfl) (by kernel_rfl) (by kernel_rfl) (fun _ _ _ h => h) rfl (by assumption) (fun w' hS' => by go_simp) ?_
        simp only [Act.put, List.setIfInBounds_toArray, List.set_cons_zero, List.set_cons_succ]
        refine takeL (i := 7) (v := (.int .i64 (f : Int))) rfl (by kernel_rfl) (by kernel_rfl) (by kernel_rfl) (fun _ _ _ h => h) rfl (by assumption) (fun w' hS' => by go_simp) ?_
        simp only [Act.put, List.setIfInBounds_toArray, List.set_cons_zero, List.set_cons_succ]
        refine takeL (i := 8) (v := (.int .i64 (c : Int))) rfl (by kernel_rfl) (by kernel_rfl) (by kernel_rfl) (fun _ _ _ h => h) rfl (by assumption) (fun w' hS' => by go_simp) ?_
        simp only [Act.put, List.setIfInBounds_toArray, List.set_cons_zero, List.set_cons_succ]
        refine takeL (i := 9) (v := (.int .i64 (fc : Int))) rfl (by kernel_rfl) (by kernel_rfl) (by kernel_rfl) (fun _ _ _ h => h) rfl (by assumption) (fun w' hS' => by go_simp) ?_
        simp only [Act.put, List.setIfInBounds_toArray, List.set_cons_zero, List.set_cons_succ]
        refine takeL (i := 10) (v := (.pointer (some ⟨g, fc, none⟩))) rfl (by kernel_rfl) (by kernel_rfl) (by kernel_rfl) (fun _ _ _ h => h) rfl (by assumption) (fun w' hS' => run_index_slice _ 37 22 (.tmp 45) (.tmp 48) rfl Tryd.underlying37 1 sz_u64 g 0 n cap rfl .i64 fc rfl hfcn fc (by have e1 := gc.out; have e2 := gc1.out; have e3 := gr0.out; have e4 := gc0.out; have e5 := gc10.out; omega)) ?_
        simp only [Act.put, List.setIfInBounds_toArray, List.set_cons_zero, List.set_cons_succ]
        refine takeL (i := 11) (v := (.int .u64 uy)) rfl (by kernel_rfl) (by kernel_rfl) (by kernel_rfl) (fun _ _ _ h => h) rfl (by assumption) (fun w' hS' => run_load_cell _ 22 (.tmp 49) rfl ⟨g, fc, none⟩ rfl _ hS'.2 _ Tryd.underlying22 rfl) ?_
        simp only [Act.put, List.setIfInBounds_toArray, List.set_cons_zero, List.set_cons_succ]
        refine oneL (i := 12) rfl (by kernel_rfl) rfl (wp_call 53 #[.int .u64 ux, .int .u64 uy] (by go_simp) _ _ (less_any ux uy _) ?_)
        rintro W2 rfl
        refine ⟨hS, ?_⟩
        simp only [Act.put, List.setIfInBounds_toArray, List.set_cons_zero, List.set_cons_succ]
        obtain ⟨bt, hbt⟩ : ∃ b, b = decide (ux < uy) := ⟨_, rfl⟩
        rw [← hbt]
        have gbt := Lib.hid hbt
        clear hbt
        refine takeL (i := 13) (v := (.bool (!bt))) rfl (by kernel_rfl) (by kernel_rfl) (by kernel_rfl) (fun _ _ _ h => h) rfl (by assumption) (fun w' hS' => by go_simp) ?_
        simp only [Act.put, List.setIfInBounds_toArray, List.set_cons_zero, List.set_cons_succ]
        refine wpAnyH_done (by kernel_rfl) ?_ _
        simp only [NoPan]
        clear hS
        refine gen_q (fun W2 => OwU base (.slice (some ⟨g, 0, none⟩) n cap) L W2 ∧ Apart g w W2) ⟨gT.out.later ((Below.refl _ _).drew), gAT.out.trans (Apart.begin g WT)⟩ ?_
        rintro WU ⟨o2, a2⟩
        have gU := Lib.hid o2
        have gAU := Lib.hid a2
        clear o2 a2
        cases bt with
        | false =>
          have ht : uy ≤ ux := by simpa using gbt.out
          rw [guy.out, gux.out, gfd.out, gfr.out] at ht
          go_wp2
          exact ret_none0 rfl rfl ⟨rfl, L, gU.out, gs.out, gX.out.fin (fun e he hh => Int.le_trans (gm.out e he hh) ht), gAU.out⟩
        | true =>
          have ht : ux < uy := by simpa using gbt.out
          rw [guy.out, gux.out, gfd.out, gfr.out] at ht
          have hX2 := gX.out.step r1 hcd (by have e1 := gc.out; have e2 := gc1.out; have e3 := gr0.out; have e4 := gc0.out; have e5 := gc10.out; omega) (by rw [gl.out]; exact hfn) ht gm.out
          rw [← gfd.out, ← gfr.out] at hX2
          have gX2 := Lib.hid hX2
          have gs2 := Lib.hid (gs.out.swp (i := fr) (j := fc) ⟨by have e1 := gc.out; have e2 := gc1.out; have e3 := gr0.out; have e4 := gc0.out; have e5 := gc10.out; omega, by have e1 := gc.out; have e2 := gc1.out; have e3 := gr0.out; have e4 := gc0.out; have e5 := gc10.out; omega⟩ ⟨by have e1 := gc.out; have e2 := gc1.out; have e3 := gr0.out; have e4 := gc0.out; have e5 := gc10.out; omega, by have e1 := gc.out; have e2 := gc1.out; have e3 := gr0.out; have e4 := gc0.out; have e5 := gc10.out; omega⟩ (by rw [hl.out]; exact hfn))
          have hk : hi - c < hi - r := by have e1 := gc.out; have e2 := gc1.out; have e3 := gr0.out; have e4 := gc0.out; have e5 := gc10.out; unfold Chi at hcd; omega
          clear hX2 ht
          go_wp2
          refine wp_nopan ?_
          refine wp_region_held (S := fun _ => True) (by kernel_rfl) ?_
          have hS : True := trivial
          have O4 := gU.out.later (w' := { WU with drawn := WU.drawn + 1 }) ((Below.refl _ _).drew)
          have cy := O4.cell fc (by rw [gl.out]; exact hfcn)
          have cx := O4.cell fr (by rw [gl.out]; exact hfrn)
          refine takeL (i := 0) (v := (.slice (some ⟨g, 0, none⟩) n cap)) rfl (by kernel_rfl) (by kernel_rfl) (by kernel_rfl) (fun _ _ _ h => h) rfl (by assumption) (fun w' hS' => by go_simp) ?_
          simp only [Act.put, List.setIfInBounds_toArray, List.set_cons_zero, List.set_cons_succ]
          refine takeL (i := 1) (v := (.int .i64 (f : Int))) rfl (by kernel_rfl) (by kernel_rfl) (by kernel_rfl) (fun _ _ _ h => h) rfl (by assumption) (fun w' hS' => by go_simp) ?_
          simp only [Act.put, List.setIfInBounds_toArray, List.set_cons_zero, List.set_cons_succ]
          refine takeL (i := 2) (v := (.int .i64 (r : Int))) rfl (by kernel_rfl) (by kernel_rfl) (by kernel_rfl) (fun _ _ _ h => h) rfl (by assumption) (fun w' hS' => by go_simp) ?_
          simp only [Act.put, List.setIfInBounds_toArray, List.set_cons_zero, List.set_cons_succ]
          refine takeL (i := 3) (v := (.int .i64 (fr : Int))) rfl (by kernel_rfl) (by kernel_rfl) (by kernel_rfl) (fun _ _ _ h => h) rfl (by assumption) (fun w' hS' => by go_simp) ?_
          simp only [Act.put, List.setIfInBounds_toArray, List.set_cons_zero, List.set_cons_succ]
          refine takeL (i := 4) (v := (.slice (some ⟨g, 0, none⟩) n cap)) rfl (by kernel_rfl) (by kernel_rfl) (by kernel_rfl) (fun _ _ _ h => h) rfl (by assumption) (fun w' hS' => by go_simp) ?_
          simp only [Act.put, List.setIfInBounds_toArray, List.set_cons_zero, List.set_cons_succ]
          refine takeL (i := 5) (v := (.int .i64 (f : Int))) rfl (by kernel_rfl) (by kernel_rfl) (by kernel_rfl) (fun _ _ _ h => h) rfl (by assumption) (fun w' hS' => by go_simp) ?_
          simp only [Act.put, List.setIfInBounds_toArray, List.set_cons_zero, List.set_cons_succ]
          refine takeL (i := 6) (v := (.int .i64 (c : Int))) rfl (by kernel_rfl) (by kernel_rfl) (by kernel_rfl) (fun _ _ _ h => h) rfl (by assumption) (fun w' hS' => by go_simp) ?_
          simp only [Act.put, List.setIfInBounds_toArray, List.set_cons_zero, List.set_cons_succ]
          refine takeL (i := 7) (v := (.int .i64 (fc : Int))) rfl (by kernel_rfl) (by kernel_rfl) (by kernel_rfl) (fun _ _ _ h => h) rfl (by assumption) (fun w' hS' => by go_simp) ?_
          simp only [Act.put, List.setIfInBounds_toArray, List.set_cons_zero, List.set_cons_succ]
          refine takeL (i := 8) (v := (.slice (some ⟨g, 0, none⟩) n cap)) rfl (by kernel_rfl) (by kernel_rfl) (by kernel_rfl) (fun _ _ _ h => h) rfl (by assumption) (fun w' hS' => by go_simp) ?_
          simp only [Act.put, List.setIfInBounds_toArray, List.set_cons_zero, List.set_cons_succ]
          refine takeL (i := 9) (v := (.int .i64 (f : Int))) rfl (by kernel_rfl) (by kernel_rfl) (by kernel_rfl) (fun _ _ _ h => h) rfl (by assumption) (fun w' hS' => by go_simp) ?_
          simp only [Act.put, List.setIfInBounds_toArray, List.set_cons_zero, List.set_cons_succ]
          refine takeL (i := 10) (v := (.int .i64 (c : Int))) rfl (by kernel_rfl) (by kernel_rfl) (by kernel_rfl) (fun _ _ _ h => h) rfl (by assumption) (fun w' hS' => by go_simp) ?_
          simp only [Act.put, List.setIfInBounds_toArray, List.set_cons_zero, List.set_cons_succ]
          refine takeL (i := 11) (v := (.int .i64 (fc : Int))) rfl (by kernel_rfl) (by kernel_rfl) (by kernel_rfl) (fun _ _ _ h => h) rfl (by assumption) (fun w' hS' => by go_simp) ?_
          simp only [Act.put, List.setIfInBounds_toArray, List.set_cons_zero, List.set_cons_succ]
          refine takeL (i := 12) (v := (.pointer (some ⟨g, fc, none⟩))) rfl (by kernel_rfl) (by kernel_rfl) (by kernel_rfl) (fun _ _ _ h => h) rfl (by assumption) (fun w' hS' => run_index_slice _ 37 22 (.tmp 61) (.tmp 64) rfl Tryd.underlying37 1 sz_u64 g 0 n cap rfl .i64 fc rfl hfcn fc (by have e1 := gc.out; have e2 := gc1.out; have e3 := gr0.out; have e4 := gc0.out; have e5 := gc10.out; omega)) ?_
          simp only [Act.put, List.setIfInBounds_toArray, List.set_cons_zero, List.set_cons_succ]
          refine takeL (i := 14) (v := (.slice (some ⟨g, 0, none⟩) n cap)) rfl (by kernel_rfl) (by kernel_rfl) (by kernel_rfl) (fun _ _ _ h => h) rfl (by assumption) (fun w' hS' => by go_simp) ?_
          simp only [Act.put, List.setIfInBounds_toArray, List.set_cons_zero, List.set_cons_succ]
          refine takeL (i := 15) (v := (.int .i64 (f : Int))) rfl (by kernel_rfl) (by kernel_rfl) (by kernel_rfl) (fun _ _ _ h => h) rfl (by assumption) (fun w' hS' => by go_simp) ?_
          simp only [Act.put, List.setIfInBounds_toArray, List.set_cons_zero, List.set_cons_succ]
          refine takeL (i := 16) (v := (.int .i64 (r : Int))) rfl (by kernel_rfl) (by kernel_rfl) (by kernel_rfl) (fun _ _ _ h => h) rfl (by assumption) (fun w' hS' => by go_simp) ?_
          simp only [Act.put, List.setIfInBounds_toArray, List.set_cons_zero, List.set_cons_succ]
          refine takeL (i := 17) (v := (.int .i64 (fr : Int))) rfl (by kernel_rfl) (by kernel_rfl) (by kernel_rfl) (fun _ _ _ h => h) rfl (by assumption) (fun w' hS' => by go_simp) ?_
          simp only [Act.put, List.setIfInBounds_toArray, List.set_cons_zero, List.set_cons_succ]
          refine takeL (i := 18) (v := (.pointer (some ⟨g, fr, none⟩))) rfl (by kernel_rfl) (by kernel_rfl) (by kernel_rfl) (fun _ _ _ h => h) rfl (by assumption) (fun w' hS' => run_index_slice _ 37 22 (.tmp 67) (.tmp 70) rfl Tryd.underlying37 1 sz_u64 g 0 n cap rfl .i64 fr rfl hfrn fr (by have e1 := gc.out; have e2 := gc1.out; have e3 := gr0.out; have e4 := gc0.out; have e5 := gc10.out; omega)) ?_
          simp only [Act.put, List.setIfInBounds_toArray, List.set_cons_zero, List.set_cons_succ]
          refine pairL (i := 13) (k := 19) (.int .u64 (L.getD fc 0)) (.int .u64 (L.getD fr 0)) (Wn := { WU with drawn := WU.drawn + 1 }) rfl rfl (by kernel_rfl) (by kernel_rfl) (by kernel_rfl) rfl rfl rfl rfl (run_load_cell _ 22 (.tmp 65) rfl ⟨g, fc, none⟩ rfl _ cy _ Tryd.underlying22 rfl) (run_load_cell _ 22 (.tmp 65) rfl ⟨g, fc, none⟩ rfl _ cy _ Tryd.underlying22 rfl) (run_load_cell _ 22 (.tmp 71) rfl ⟨g, fr, none⟩ rfl _ cx _ Tryd.underlying22 rfl) (run_load_cell _ 22 (.tmp 71) rfl ⟨g, fr, none⟩ rfl _ cx _ Tryd.underlying22 rfl) trivial trivial (by kernel_rfl) (by rfl) ?_
          simp only [Act.put, List.setIfInBounds_toArray, List.set_cons_zero, List.set_cons_succ]
          refine takeL (i := 20) (v := (.pointer (some ⟨g, fr, none⟩))) rfl (by kernel_rfl) (by kernel_rfl) (by kernel_rfl) (fun _ _ _ h => h) rfl (by assumption) (fun w' hS' => run_index_slice _ 37 22 (.tmp 53) (.tmp 56) rfl Tryd.underlying37 1 sz_u64 g 0 n cap rfl .i64 fr rfl hfrn fr (by have e1 := gc.out; have e2 := gc1.out; have e3 := gr0.out; have e4 := gc0.out; have e5 := gc10.out; omega)) ?_
          simp only [Act.put, List.setIfInBounds_toArray, List.set_cons_zero, List.set_cons_succ]
          refine oneL (i := 21) rfl (by kernel_rfl) rfl (wp_storeU (.tmp 73) (.tmp 66) rfl base g n cap fr L O4 rfl (L.getD fc 0) rfl (by rw [gl.out]; exact hfrn) ?_)
          intro W3 hO5 hA5
          refine ⟨trivial, ?_⟩
          simp only [Act.put, List.setIfInBounds_toArray, List.set_cons_zero, List.set_cons_succ]
          refine takeL (i := 22) (v := (.pointer (some ⟨g, fc, none⟩))) rfl (by kernel_rfl) (by kernel_rfl) (by kernel_rfl) (fun _ _ _ h => h) rfl (by assumption) (fun w' hS' => run_index_slice _ 37 22 (.tmp 57) (.tmp 60) rfl Tryd.underlying37 1 sz_u64 g 0 n cap rfl .i64 fc rfl hfcn fc (by have e1 := gc.out; have e2 := gc1.out; have e3 := gr0.out; have e4 := gc0.out; have e5 := gc10.out; omega)) ?_
          simp only [Act.put, List.setIfInBounds_toArray, List.set_cons_zero, List.set_cons_succ]
          refine oneL (i := 23) rfl (by kernel_rfl) rfl (wp_storeU (.tmp 74) (.tmp 72) rfl base g n cap fc (L.set fr (L.getD fc 0)) hO5 rfl (L.getD fr 0) rfl (by rw [List.length_set, gl.out]; exact hfcn) ?_)
          intro W4 hO6 hA6
          refine ⟨trivial, ?_⟩
          simp only [Act.put, List.setIfInBounds_toArray, List.set_cons_zero, List.set_cons_succ]
          refine wpAnyH_done (by kernel_rfl) ?_ _
          simp only [NoPan]
          rw [swp_two] at hO6
          have hA7 := ((gAU.out.trans (Apart.begin g WU)).trans hA5).trans hA6
          refine gen_q (fun W2 => OwU base (.slice (some ⟨g, 0, none⟩) n cap) (swp L fr fc) W2 ∧ Apart g w W2) ⟨hO6, hA7⟩ ?_
          clear hA7 hO6 hA6 hO5 hA5 O4 hS cx cy
          rintro WV ⟨o2, a2⟩
          have gV := Lib.hid o2
          have gAV := Lib.hid a2
          clear o2 a2
          go_wp2
          exact ⟨⟨c, _, by have e1 := gc.out; have e2 := gc1.out; have e3 := gr0.out; have e4 := gc0.out; have e5 := gc10.out; unfold Chi at hcd; omega, by have e1 := gc.out; have e2 := gc1.out; have e3 := gr0.out; have e4 := gc0.out; have e5 := gc10.out; omega, rfl, gV.out, gs2.out, gX2.out, gAV.out⟩, by simpa [intOf] using hk⟩
end Go.Proofs.YtfnjcpopadpmbaaDoor
namespace Go.Proofs.YtfnjcpopadpmbaaDoor
open Go.RowKit BigFrame
set_option maxRecDepth 100000
theorem hp_max {f : Nat} {L : List Int} : ∀ {m : Nat}, Hp 0 m f L → ∀ k, k < m → L.getD (f + k) 0 ≤ L.getD f 0 := by
  intro m h k
  induction k using Nat.strongRecOn with
  | ind k ih =>
    intro hk
    rcases Nat.eq_zero_or_pos k with e | e
    · subst e; exact Int.le_refl _
    · exact Int.le_trans (h ((k - 1) / 2) k (Nat.zero_le _) (by unfold Chi; omega) hk) (ih ((k - 1) / 2) (by omega) (by omega))
/-- What stands from k on is in its place. -/
def Pop (k hi f : Nat) (L : List Int) : Prop := ∀ p q, p ≤ q → q < hi → k ≤ q → L.getD (f + p) 0 ≤ L.getD (f + q) 0
theorem pop_heap {k hi f : Nat} {L : List Int} (hH : Hp 0 (k + 1) f L) (hk : k < hi) (hl : f + hi ≤ L.length) : Hp (0 + 1) k f (swp L f (f + k)) := by
  intro p c h1 h2 h3
  have h2' := h2
  unfold Chi at h2'
  rw [swp_get _ _ _ _ (by omega) (by omega), swp_get _ _ _ _ (by omega) (by omega), if_neg (by omega), if_neg (by omega), if_neg (by omega), if_neg (by omega)]
  exact hH p c (Nat.zero_le _) h2 (by omega)
theorem pop_step {k hi f : Nat} {L L' : List Int} (hH : Hp 0 (k + 1) f L) (hP : Pop (k + 1) hi f L) (hk : k < hi) (hl : f + hi ≤ L.length) (hS : SegP f (f + k) (swp L f (f + k)) L') : Pop k hi f L' := by
  have g : ∀ z, z < hi → (swp L f (f + k)).getD (f + z) 0 = if z = k then L.getD f 0 else if z = 0 then L.getD (f + k) 0 else L.getD (f + z) 0 := fun z _ => by
    rw [swp_get _ _ _ _ (by omega) (by omega)]
    by_cases e1 : z = k
    · rw [if_pos e1, if_pos (by omega)]
    · rw [if_neg e1, if_neg (by omega)]
      by_cases e2 : z = 0
      · rw [if_pos e2, if_pos (by omega)]
      · rw [if_neg e2, if_neg (by omega)]
  have low : ∀ p, p < k → ∃ j, j ≤ k ∧ L'.getD (f + p) 0 = L.getD (f + j) 0 := fun p hp => by
    obtain ⟨z, z1, z2, z3⟩ := hS.mem (f + p) (by omega) (by omega)
    obtain ⟨y, rfl⟩ : ∃ y, z = f + y := ⟨z - f, by omega⟩
    rw [g y (by omega), if_neg (by omega)] at z3
    by_cases e : y = 0
    · rw [if_pos e] at z3; exact ⟨k, Nat.le_refl _, z3⟩
    · rw [if_neg e] at z3; exact ⟨y, by omega, z3⟩
  have hig : ∀ q, k ≤ q → q < hi → L'.getD (f + q) 0 = if q = k then L.getD f 0 else L.getD (f + q) 0 := fun q h1 h2 => by
    rw [hS.out (f + q) (by omega), g q h2]
    by_cases e : q = k
    · rw [if_pos e, if_pos e]
    · rw [if_neg e, if_neg (by omega), if_neg e]
  intro p q h1 h2 h3
  rcases Nat.lt_or_ge p k with hp | hp
  · obtain ⟨j, j1, j2⟩ := low p hp
    rw [j2, hig q h3 h2]
    by_cases e : q = k
    · rw [if_pos e]; exact hp_max hH j (by omega)
    · rw [if_neg e]; exact hP j q (by omega) h2 (by omega)
  · rw [hig p hp (by omega), hig q h3 h2]
    by_cases e1 : p = k
    · by_cases e2 : q = k
      · rw [if_pos e1, if_pos e2]; exact Int.le_refl _
      · rw [if_pos e1, if_neg e2]; exact hP 0 q (Nat.zero_le _) h2 (by omega)
    · rw [if_neg e1, if_neg (by omega)]; exact hP p q h1 h2 (by omega)
set_option maxHeartbeats 32000000 in
theorem heap_any (base g n cap a b : Nat) (l : List Int) (w : World) (hO0 : OwU base (.slice (some ⟨g, 0, none⟩) n cap) l w) (hl0 : l.length = n) (hab : a < b) (hbn : b ≤ n) (hn : n ≤ 1000000) :
    Calls Tryd.prog 48 #[.slice (some ⟨g, 0, none⟩) n cap, .int .i64 (a : Int), .int .i64 (b : Int)] w fun e w' => e = .returned (.tuple #[]) ∧ ∃ (l' : List Int), OwU base (.slice (some ⟨g, 0, none⟩) n cap) l' w' ∧ SegP a b l l' ∧ SortedIn a b l' ∧ Apart g w w' := by
  have hO := Lib.hid hO0
  have hl := Lib.hid hl0
  clear hO0 hl0
  obtain ⟨h, hh⟩ : ∃ h, a + h = b := ⟨b - a, by omega⟩
  obtain ⟨h1, hh1⟩ : ∃ h1, h1 + 1 = h := ⟨h - 1, by omega⟩
  obtain ⟨hq, hhq⟩ : ∃ hq, hq = h1 / 2 := ⟨_, rfl⟩
  have w1 : IntKind.i64.wrap ((b : Int) - (a : Int)) = (h : Int) := by rw [IntKind.wrap_i64]; omega
  have w2 : IntKind.i64.wrap ((h : Int) - 1) = (h1 : Int) := by rw [IntKind.wrap_i64]; omega
  have w3 : IntKind.i64.wrap ((h1 : Int).tdiv 2) = (hq : Int) := by rw [IntKind.wrap_i64, hhq, Int.tdiv_eq_ediv_of_nonneg (by omega)]; omega
  have gh := Lib.hid hh
  have gh1 := Lib.hid hh1
  have ghq := Lib.hid hhq
  clear hh hh1 hhq
  go_enter Tryd.func48, Tryd.ntmps48
  go_wp2
  go_loopw [9] (fun v wr => ∃ (k : Nat) (L : List Int), k ≤ h ∧ v = .int .i64 ((k : Int) - 1) ∧ OwU base (.slice (some ⟨g, 0, none⟩) n cap) L wr ∧ SegP a b l L ∧ Hp k h a L ∧ Apart g w wr) (fun v _ => ((match v with | .int _ z => z + 1 | _ => 0) : Int).toNat)
  case atStart => exact ⟨hq + 1, l, by have := gh1.out; have := ghq.out; omega, (show Value.int .i64 (wrap64 ((h1 : Int) / 2)) = .int .i64 (((hq + 1 : Nat) : Int) - 1) by rw [show (((hq + 1 : Nat) : Int) - 1) = wrap64 ((h1 : Int) / 2) by have := gh.out; have := gh1.out; have := ghq.out; simp only [wrap64]; omega]), hO.out, SegP.refl _ _ _, fun k c k1 k2 k3 => by have := gh1.out; have := ghq.out; unfold Chi at k2; omega, Apart.refl _ _⟩
  case round =>
    obtain ⟨k, L, k1, hv, o1, s1, x1, a1'⟩ := hrel
    have gO := Lib.hid o1
    have gs := Lib.hid s1
    have gX := Lib.hid x1
    have gA := Lib.hid a1'
    have gl := Lib.hid (s1.len.trans hl.out)
    clear o1 s1 x1 a1'
    rcases k with _ | k
    · have e : (((0 : Nat) : Int) - 1) = -1 := rfl
      rw [e] at hv
      subst hv
      go_wp2
      go_loopw [10] (fun v wr => ∃ (k : Nat) (L : List Int), k ≤ h ∧ v = .int .i64 ((k : Int) - 1) ∧ OwU base (.slice (some ⟨g, 0, none⟩) n cap) L wr ∧ SegP a b l L ∧ Hp 0 k a L ∧ Pop k h a L ∧ Apart g w wr) (fun v _ => ((match v with | .int _ z => z + 1 | _ => 0) : Int).toNat)
      case atStart => exact ⟨h, L, Nat.le_refl _, (show Value.int .i64 (h1 : Int) = .int .i64 ((h : Int) - 1) by rw [show ((h : Int) - 1) = (h1 : Int) by have := gh1.out; omega]), gO.out, gs.out, gX.out, fun p q _ q2 q3 => by omega, gA.out⟩
      case round =>
        obtain ⟨k, L, k1, hv, o1, s1, x1, p1, a1'⟩ := hrel
        clear gO gs gX gA gl
        have gO := Lib.hid o1
        have gs := Lib.hid s1
        have gX := Lib.hid x1
        have gP := Lib.hid p1
        have gA := Lib.hid a1'
        have gl := Lib.hid (s1.len.trans hl.out)
        clear o1 s1 x1 p1 a1'
        rcases k with _ | k
        · have e : (((0 : Nat) : Int) - 1) = -1 := rfl
          rw [e] at hv
          subst hv
          go_wp2
          exact ret_none rfl rfl ⟨rfl, L, gO.out, gs.out, fun p q q1 q2 q3 => by
            have hgh := gh.out
            have := gP.out (p - a) (q - a) (by omega) (by omega) (Nat.zero_le _)
            rw [show a + (p - a) = p by omega, show a + (q - a) = q by omega] at this
            exact this, gA.out⟩
        · have e : (((k + 1 : Nat) : Int) - 1) = (k : Int) := by omega
          rw [e] at hv
          subst hv
          obtain ⟨ak, hak⟩ : ∃ ak, ak = a + k := ⟨_, rfl⟩
          have hgh := gh.out
          have wak : IntKind.i64.wrap ((a : Int) + (k : Int)) = (ak : Int) := by rw [IntKind.wrap_i64]; omega
          have wk : IntKind.i64.wrap ((k : Int) - 1) = (k : Int) - 1 := by rw [IntKind.wrap_i64]; omega
          have han : a < n := by omega
          have hakn : ak < n := by omega
          have hlen : (swp L a ak).length = n := by rw [swp_length, gl.out]
          have hhp := pop_heap gX.out (show k < h by omega) (by rw [gl.out]; omega)
          rw [← hak] at hhp
          have hps := fun L' => pop_step (L' := L') gX.out gP.out (show k < h by omega) (by rw [gl.out]; omega)
          rw [← hak] at hps
          have hsg := gs.out.swp (i := a) (j := ak) ⟨by omega, by omega⟩ ⟨by omega, by omega⟩ (by rw [hl.out]; exact hbn)
          have gak := Lib.hid hak
          have ghp := Lib.hid hhp
          have gps := Lib.hid hps
          have gsg := Lib.hid hsg
          have glen := Lib.hid hlen
          clear hak hhp hps hsg hlen hgh
          go_wp2
          refine wp_nopan ?_
          refine wp_region_held (S := fun _ => True) (by kernel_rfl) ?_
          have hS : True := trivial
          have O4 := gO.out.later (w' := { wr with drawn := wr.drawn + 1 }) ((Below.refl _ _).drew)
          have cy := O4.cell ak (by rw [gl.out]; exact hakn)
          have cx := O4.cell a (by rw [gl.out]; exact han)
          refine takeL (i := 0) (v := (.slice (some ⟨g, 0, none⟩) n cap)) rfl (by kernel_rfl) (by kernel_rfl) (by kernel_rfl) (fun _ _ _ h => h) rfl (by assumption) (fun w' hS' => by go_simp) ?_
          simp only [Act.put, List.setIfInBounds_toArray, List.set_cons_zero, List.set_cons_succ]
          refine takeL (i := 1) (v := (.int .i64 (a : Int))) rfl (by kernel_rfl) (by kernel_rfl) (by kernel_rfl) (fun _ _ _ h => h) rfl (by assumption) (fun w' hS' => by go_simp) ?_
          simp only [Act.put, List.setIfInBounds_toArray, List.set_cons_zero, List.set_cons_succ]
          refine takeL (i := 2) (v := (.slice (some ⟨g, 0, none⟩) n cap)) rfl (by kernel_rfl) (by kernel_rfl) (by kernel_rfl) (fun _ _ _ h => h) rfl (by assumption) (fun w' hS' => by go_simp) ?_
          simp only [Act.put, List.setIfInBounds_toArray, List.set_cons_zero, List.set_cons_succ]
          refine takeL (i := 3) (v := (.int .i64 (a : Int))) rfl (by kernel_rfl) (by kernel_rfl) (by kernel_rfl) (fun _ _ _ h => h) rfl (by assumption) (fun w' hS' => by go_simp) ?_
          simp only [Act.put, List.setIfInBounds_toArray, List.set_cons_zero, List.set_cons_succ]
          refine takeL (i := 4) (v := (.int .i64 (k : Int))) rfl (by kernel_rfl) (by kernel_rfl) (by kernel_rfl) (fun _ _ _ h => h) rfl (by assumption) (fun w' hS' => by go_simp) ?_
          simp only [Act.put, List.setIfInBounds_toArray, List.set_cons_zero, List.set_cons_succ]
          refine takeL (i := 5) (v := (.int .i64 (ak : Int))) rfl (by kernel_rfl) (by kernel_rfl) (by kernel_rfl) (fun _ _ _ h => h) rfl (by assumption) (fun w' hS' => by go_simp) ?_
          simp only [Act.put, List.setIfInBounds_toArray, List.set_cons_zero, List.set_cons_succ]
          refine takeL (i := 6) (v := (.slice (some ⟨g, 0, none⟩) n cap)) rfl (by kernel_rfl) (by kernel_rfl) (by kernel_rfl) (fun _ _ _ h => h) rfl (by assumption) (fun w' hS' => by go_simp) ?_
          simp only [Act.put, List.setIfInBounds_toArray, List.set_cons_zero, List.set_cons_succ]
          refine takeL (i := 7) (v := (.int .i64 (a : Int))) rfl (by kernel_rfl) (by kernel_rfl) (by kernel_rfl) (fun _ _ _ h => h) rfl (by assumption) (fun w' hS' => by go_simp) ?_
          simp only [Act.put, List.setIfInBounds_toArray, List.set_cons_zero, List.set_cons_succ]
          refine takeL (i := 8) (v := (.int .i64 (k : Int))) rfl (by kernel_rfl) (by kernel_rfl) (by kernel_rfl) (fun _ _ _ h => h) rfl (by assumption) (fun w' hS' => by go_simp) ?_
          simp only [Act.put, List.setIfInBounds_toArray, List.set_cons_zero, List.set_cons_succ]
          refine takeL (i := 9) (v := (.int .i64 (ak : Int))) rfl (by kernel_rfl) (by kernel_rfl) (by kernel_rfl) (fun _ _ _ h => h) rfl (by assumption) (fun w' hS' => by go_simp) ?_
          simp only [Act.put, List.setIfInBounds_toArray, List.set_cons_zero, List.set_cons_succ]
          refine takeL (i := 10) (v := (.pointer (some ⟨g, ak, none⟩))) rfl (by kernel_rfl) (by kernel_rfl) (by kernel_rfl) (fun _ _ _ h => h) rfl (by assumption) (fun w' hS' => run_index_slice _ 37 22 (.tmp 39) (.tmp 42) rfl Tryd.underlying37 1 sz_u64 g 0 n cap rfl .i64 ak rfl hakn ak (by omega)) ?_
          simp only [Act.put, List.setIfInBounds_toArray, List.set_cons_zero, List.set_cons_succ]
          refine takeL (i := 12) (v := (.slice (some ⟨g, 0, none⟩) n cap)) rfl (by kernel_rfl) (by kernel_rfl) (by kernel_rfl) (fun _ _ _ h => h) rfl (by assumption) (fun w' hS' => by go_simp) ?_
          simp only [Act.put, List.setIfInBounds_toArray, List.set_cons_zero, List.set_cons_succ]
          refine takeL (i := 13) (v := (.int .i64 (a : Int))) rfl (by kernel_rfl) (by kernel_rfl) (by kernel_rfl) (fun _ _ _ h => h) rfl (by assumption) (fun w' hS' => by go_simp) ?_
          simp only [Act.put, List.setIfInBounds_toArray, List.set_cons_zero, List.set_cons_succ]
          refine takeL (i := 14) (v := (.pointer (some ⟨g, a, none⟩))) rfl (by kernel_rfl) (by kernel_rfl) (by kernel_rfl) (fun _ _ _ h => h) rfl (by assumption) (fun w' hS' => run_index_slice _ 37 22 (.tmp 45) (.tmp 46) rfl Tryd.underlying37 1 sz_u64 g 0 n cap rfl .i64 a rfl han a (by omega)) ?_
          simp only [Act.put, List.setIfInBounds_toArray, List.set_cons_zero, List.set_cons_succ]
          refine pairL (i := 11) (k := 15) (.int .u64 (L.getD ak 0)) (.int .u64 (L.getD a 0)) (Wn := { wr with drawn := wr.drawn + 1 }) rfl rfl (by kernel_rfl) (by kernel_rfl) (by kernel_rfl) rfl rfl rfl rfl (run_load_cell _ 22 (.tmp 43) rfl ⟨g, ak, none⟩ rfl _ cy _ Tryd.underlying22 rfl) (run_load_cell _ 22 (.tmp 43) rfl ⟨g, ak, none⟩ rfl _ cy _ Tryd.underlying22 rfl) (run_load_cell _ 22 (.tmp 47) rfl ⟨g, a, none⟩ rfl _ cx _ Tryd.underlying22 rfl) (run_load_cell _ 22 (.tmp 47) rfl ⟨g, a, none⟩ rfl _ cx _ Tryd.underlying22 rfl) trivial trivial (by kernel_rfl) (by rfl) ?_
          simp only [Act.put, List.setIfInBounds_toArray, List.set_cons_zero, List.set_cons_succ]
          refine takeL (i := 16) (v := (.pointer (some ⟨g, a, none⟩))) rfl (by kernel_rfl) (by kernel_rfl) (by kernel_rfl) (fun _ _ _ h => h) rfl (by assumption) (fun w' hS' => run_index_slice _ 37 22 (.tmp 33) (.tmp 34) rfl Tryd.underlying37 1 sz_u64 g 0 n cap rfl .i64 a rfl han a (by omega)) ?_
          simp only [Act.put, List.setIfInBounds_toArray, List.set_cons_zero, List.set_cons_succ]
          refine oneL (i := 17) rfl (by kernel_rfl) rfl (wp_storeU (.tmp 49) (.tmp 44) rfl base g n cap a L O4 rfl (L.getD ak 0) rfl (by rw [gl.out]; exact han) ?_)
          intro W3 hO5 hA5
          refine ⟨trivial, ?_⟩
          simp only [Act.put, List.setIfInBounds_toArray, List.set_cons_zero, List.set_cons_succ]
          refine takeL (i := 18) (v := (.pointer (some ⟨g, ak, none⟩))) rfl (by kernel_rfl) (by kernel_rfl) (by kernel_rfl) (fun _ _ _ h => h) rfl (by assumption) (fun w' hS' => run_index_slice _ 37 22 (.tmp 35) (.tmp 38) rfl Tryd.underlying37 1 sz_u64 g 0 n cap rfl .i64 ak rfl hakn ak (by omega)) ?_
          simp only [Act.put, List.setIfInBounds_toArray, List.set_cons_zero, List.set_cons_succ]
          refine oneL (i := 19) rfl (by kernel_rfl) rfl (wp_storeU (.tmp 50) (.tmp 48) rfl base g n cap ak (L.set a (L.getD ak 0)) hO5 rfl (L.getD a 0) rfl (by rw [List.length_set, gl.out]; exact hakn) ?_)
          intro W4 hO6 hA6
          refine ⟨trivial, ?_⟩
          simp only [Act.put, List.setIfInBounds_toArray, List.set_cons_zero, List.set_cons_succ]
          refine wpAnyH_done (by kernel_rfl) ?_ _
          simp only [NoPan]
          rw [swp_two] at hO6
          have hA7 := ((gA.out.trans (Apart.begin g wr)).trans hA5).trans hA6
          refine gen_q (fun W2 => OwU base (.slice (some ⟨g, 0, none⟩) n cap) (swp L a ak) W2 ∧ Apart g w W2) ⟨hO6, hA7⟩ ?_
          clear hA7 hO6 hA6 hO5 hA5 O4 hS cx cy
          rintro WS1 ⟨o2, a2⟩
          have gS1 := Lib.hid o2
          have gAS1 := Lib.hid a2
          clear o2 a2
          have hs : Calls Tryd.prog 63 #[.slice (some ⟨g, 0, none⟩) n cap, .int .i64 0, .int .i64 (k : Int), .int .i64 (a : Int)] WS1 fun e w' => e = .returned (.tuple #[]) ∧ ∃ (l' : List Int), OwU base (.slice (some ⟨g, 0, none⟩) n cap) l' w' ∧ SegP a (a + k) (swp L a ak) l' ∧ Hp 0 k a l' ∧ Apart g WS1 w' := sift_any base g n cap 0 k a (swp L a ak) WS1 gS1.out glen.out (Nat.zero_le _) (by have := gh.out; omega) hn ghp.out
          have gsf := Lib.hid hs
          clear hs
          go_wp2_with (
            ((with_reducible refine gsf.out.mono ?_)
             rintro e W2 ⟨rfl, L2, o2, s2, x2, a2⟩
             have gO2 := Lib.hid o2
             have gs2 := Lib.hid s2
             have gX2 := Lib.hid x2
             have gA2 := Lib.hid a2
             clear o2 s2 x2 a2))
          exact ⟨⟨k, L2, by omega, rfl, gO2.out, gsg.out.trans (gs2.out.wide (Nat.le_refl _) (by have := gh.out; omega)), gX2.out, gps.out L2 (gak.out ▸ gs2.out), gAS1.out.trans gA2.out⟩, by simp⟩
    · have e : (((k + 1 : Nat) : Int) - 1) = (k : Int) := by omega
      rw [e] at hv
      subst hv
      have hs := Lib.hid (sift_any base g n cap k h a L wr gO.out gl.out (by omega) (by have := gh.out; omega) hn gX.out)
      have wk : IntKind.i64.wrap ((k : Int) - 1) = (k : Int) - 1 := by have := gh.out; rw [IntKind.wrap_i64]; omega
      go_wp2_with (
        ((with_reducible refine hs.out.mono ?_)
         rintro e W2 ⟨rfl, L2, o2, s2, x2, a2⟩
         have gO2 := Lib.hid o2
         have gs2 := Lib.hid s2
         have gX2 := Lib.hid x2
         have gA2 := Lib.hid a2
         clear o2 s2 x2 a2))
      exact ⟨⟨k, L2, by omega, rfl, gO2.out, gs.out.trans (gs2.out.wide (Nat.le_refl _) (by have := gh.out; omega)), gX2.out, gA.out.trans gA2.out⟩, by simp⟩
end Go.Proofs.YtfnjcpopadpmbaaDoor
