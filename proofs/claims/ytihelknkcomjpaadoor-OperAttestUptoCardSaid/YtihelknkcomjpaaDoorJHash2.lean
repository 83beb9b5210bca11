/- wire.Hash of the program: chunks are gathered. -/
/- wire.Hash.U64 and Flag. -/
import Derived.Test.YtihelknkcomjpaaDoorJTree
set_option linter.unusedVariables false
set_option linter.unusedSimpArgs false
set_option linter.unnecessarySimpa false
namespace Go.Proofs.YtihelknkcomjpaaDoor
open Go.RowKit BigFrame
set_option maxRecDepth 100000
def rcells (rs : List (Nat → Int)) : List Value := (rs.map fun a => fcells 32 (fun _ => .u8) a).flatten
theorem rcells_length (rs : List (Nat → Int)) : (rcells rs).length = rs.length * 32 := by
  induction rs with
  | nil => rfl
  | cons a rs ih =>
    have h : (rcells (a :: rs)).length = 32 + (rcells rs).length := by
      show ((fcells 32 (fun _ => .u8) a) ++ rcells rs).length = _
      rw [List.length_append, fcells_length]
    rw [h, ih, List.length_cons]
    omega
theorem rcells_append (rs ss : List (Nat → Int)) : rcells (rs ++ ss) = rcells rs ++ rcells ss := by simp [rcells]
theorem rcells_one (a : Nat → Int) : rcells [a] = fcells 32 (fun _ => .u8) a := by simp [rcells]
theorem fcells_mem {n : Nat} {kd : Nat → CK} {f : Nat → Int} : ∀ u ∈ fcells n kd f, u.oneCell' = true := fun v hv => Array.all_eq_true_iff_forall_mem.1 (fcells_one n kd f) v (by simpa using hv)
/-- v is a slice of the call's own (from base on) that holds these roots. -/
def OwnR (base : Nat) (v : Value) (rs : List (Nat → Int)) (w : World) : Prop := w.ownsRow base 23 32 v rs.length (rcells rs)
def hashE (er : Int) (v : Value) : Array Value := #[v, .int .i64 er]
abbrev hashC (v : Value) : Array Value := hashE 0 v
/-- The Hash in block b has gathered the chunks rs, and has the error er. -/
structure HashE (er : Int) (b : Nat) (rs : List (Nat → Int)) (w : World) : Prop where
  is : ∀ r ∈ rs, IsR r
  has : ∃ v, w.heap[b]? = some (.cells (hashE er v) 90 (0, 0)) ∧ OwnR (b + 1) v rs w
abbrev HashW (b : Nat) (rs : List (Nat → Int)) (w : World) : Prop := HashE 0 b rs w
theorem block_lt {w : World} {b : Nat} {o : Obj} (h : w.heap[b]? = some o) : b < w.heap.size := (Array.getElem?_eq_some_iff.1 h).1
theorem HashE.size {er : Int} {b : Nat} {rs : List (Nat → Int)} {w : World} (h : HashE er b rs w) : b + 1 ≤ w.heap.size := by
  obtain ⟨v, h1, _⟩ := h.has
  exact block_lt h1
theorem cell_hash {er : Int} {b : Nat} {v : Value} {w : World} (h : w.heap[b]? = some (.cells (hashE er v) 90 (0, 0))) (j : Nat) : w.cell? ⟨b, j, none⟩ = (hashE er v)[j]? := by
  rw [cell_of_row w b j _ _ _ h]
theorem sz_rs : (Tryd.prog.info? 88).map (·.size) = some 1 := by kernel_rfl
theorem info_root : (Tryd.prog.info? 23).map (fun i => (i.zero, i.size, i.bytes)) = some (some (.agg (rep 32)), 32, 32) := by kernel_rfl
theorem info_root2 : (Tryd.prog.info? 23).map (fun i => (i.zero, i.size)) = some (some (.agg (rep 32)), 32) := by kernel_rfl
theorem run_bslice_root {ρ : Operand → Value} {o : Oper} (w : World) (parts : Array (Nat × Operand)) (ho : o.op = .buildSlice 88 1 parts) (r : Nat → Int) (hp : (parts.toList.map fun p => (p.1, ρ p.2)) = [(0, .agg (rootV r))]) :
    (execOp ρ o).run Tryd.prog w = .ok (.value (.slice (some ⟨w.heap.size, 0, none⟩) 1 1)) (w.alloc (.cells (rootV r) 23)) := by
  have h := run_buildSlice w 88 23 1 parts ho Tryd.underlying88 (.agg (rep 32)) 32 info_root2 (by decide) (by decide) [.agg (rootV r)] rfl hp (fun u hu => by rw [List.mem_singleton.1 hu]; show (fcells 32 _ r).toArray.size = 32; simp [fcells])
  have e : (([Value.agg (rootV r)].map fun v => v.cells.toList).flatten.toArray : Array Value) = rootV r := by
    show ((rootV r).toList ++ []).toArray = rootV r
    rw [List.append_nil]
  rwa [e] at h
/-- Where the tail of the three methods begins. -/
def TailW (er : Int) (b n : Nat) (v : Value) (rs : List (Nat → Int)) (r : Nat → Int) (w W1 : World) : Prop :=
  W1.heap[b]? = some (.cells (hashE er v) 90 (0, 0)) ∧ OwnR (b + 1) v rs W1 ∧ W1.heap[n]? = some (.cells (rootV r) 23 (0, 0)) ∧ Below (b + 1) w W1 ∧ b + 1 ≤ n ∧ n < W1.heap.size ∧ ∀ k, v.ownBlock = some k → k < n
set_option maxHeartbeats 8000000 in
theorem hash_putE (b : Nat) (er ee : Int) (rs : List (Nat → Int)) (r : Nat → Int) (w : World) (h : HashE er b rs w) (hr0 : IsR r) (hlen : rs.length ≤ 1099511627776) :
    Calls Tryd.prog 42 #[.pointer (some ⟨b, 0, none⟩), .agg (rootV r), .int .i64 ee] w fun e w' => e = .returned (.tuple #[]) ∧ HashE (if er = 0 then ee else er) b (rs ++ [r]) w' ∧ Below b w w' := by
  have hz := h.size
  have hrs := Lib.hid h.is
  obtain ⟨v, hb, hv⟩ := h.has
  have hb' := Lib.hid hb
  have hv' := Lib.hid hv
  have hlt := hv.lt
  clear hb hv h
  have hr := Lib.hid hr0
  clear hr0
  go_enter Tryd.func42, Tryd.ntmps42
  by_cases he : er = 0
  · subst he
    go_wp2_with (first
      | ((with_reducible refine at_load 36 ?_); refine wpList_value (by rfl) _ (run_load_cell _ 36 _ (by rfl) ⟨b, 1, none⟩ (by rfl) (.int .i64 0) (cell_hash (heap_past _ _ _ _ hb'.out) 1) _ Tryd.underlying36 rfl) ?_)
      | ((with_reducible refine at_store 36 ?_)
         refine wpList_plain rfl fun K hK => wp_store1 36 _ _ rfl b 1 rfl (.int .i64 ee) rfl rfl (by kernel_rfl) _ _ (heap_past _ _ _ _ hb'.out) (by simp [hashE]) (fun W2 hC2 hx2 => hK _ _ ?_)
         clear hK K
         have hC2' : W2.heap[b]? = some (.cells (hashE ee v) 90 (0, 0)) := hC2
         have hW2 := Lib.hid (And.intro hC2' hx2)
         clear hC2' hC2 hx2))
    try simp only [Act.put]
    refine gen_world (fun W1 => ∃ w0, W1 = w0 ∧ TailW ee b w.heap.size v rs r w0 W1 ∧ Below b w w0) ⟨W2, rfl, ⟨hW2.out.1, own_apart (own_later hv'.out ((Below.refl _ _).alloc (Nat.le_refl _) _)) hW2.out.2 (by omega), (hW2.out.2.block _ (by simp) (by omega)).trans (heap_new _ _ _ _ rfl), Below.refl _ _, hz, Nat.lt_of_lt_of_le (by simp) hW2.out.2.size, fun k hk => (hlt k hk).2⟩, hW2.out.2.below ((Below.refl b w).alloc (by omega) _) (Nat.le_refl _) (by simp; omega)⟩ ?_
    clear hW2 W2
    rintro W1 ⟨w0, e0, hW1, h0⟩
    have hb0 := Lib.hid (e0 ▸ hW1.1)
    clear hlt e0
    try simp only [if_true]
    generalize w.heap.size = n at *
    obtain ⟨kb, kv, kn, kB, kz, ks, kvk⟩ := hW1
    have hvn : v.ownBlock ≠ some n := fun e => by have := (kvk n e); omega
    refine wp_region_held (S := fun w' => w'.heap[n]? = some (.cells (rootV r) 23 (0, 0))) (by kernel_rfl) ?_
    have hS : ({ W1 with drawn := W1.drawn + 1 } : World).heap[n]? = some (.cells (rootV r) 23 (0, 0)) := kn
    have hB1 : Below (b + 1) w0 { W1 with drawn := W1.drawn + 1 } := kB.drew
    refine takeL (i := 0) (v := (.pointer (some ⟨b, 0, none⟩))) rfl (by kernel_rfl) (by kernel_rfl) (by kernel_rfl) (fun _ _ _ h => h) rfl (by assumption) (fun w' hS' => by go_simp) ?_
    simp only [Act.put, List.setIfInBounds_toArray, List.set_cons_zero, List.set_cons_succ]
    refine takeL (i := 1) (v := (.pointer (some ⟨b, 0, none⟩))) rfl (by kernel_rfl) (by kernel_rfl) (by kernel_rfl) (fun _ _ _ h => h) rfl (by assumption) (fun w' hS' => by go_simp) ?_
    simp only [Act.put, List.setIfInBounds_toArray, List.set_cons_zero, List.set_cons_succ]
    refine takeL (i := 2) (v := (.pointer (some ⟨b, 0, none⟩))) rfl (by kernel_rfl) (by kernel_rfl) (by kernel_rfl) (fun _ _ _ h => h) rfl (by assumption) (fun w' hS' => by go_simp) ?_
    simp only [Act.put, List.setIfInBounds_toArray, List.set_cons_zero, List.set_cons_succ]
    refine takeL (i := 3) (v := (.pointer (some ⟨b, 0, none⟩))) rfl (by kernel_rfl) (by kernel_rfl) (by kernel_rfl) (fun _ _ _ h => h) rfl (by assumption) (fun w' hS' => by go_simp) ?_
    simp only [Act.put, List.setIfInBounds_toArray, List.set_cons_zero, List.set_cons_succ]
    refine takeL (i := 5) (v := (.agg (rootV r))) rfl (by kernel_rfl) (by kernel_rfl) (by kernel_rfl) (fun _ _ _ h => h) rfl (by assumption) (fun w' hS' => run_load_box _ 23 _ (by rfl) n (by rfl) _ (rootV r) (0, 0) _ hS' Tryd.underlying23 rfl (by rw [row_size row_root]; simp [fcells])) ?_
    simp only [Act.put, List.setIfInBounds_toArray, List.set_cons_zero, List.set_cons_succ]
    refine pairL (i := 4) (k := 6) v (.slice (some ⟨W1.heap.size, 0, none⟩) 1 1) (Wn := ({ W1 with drawn := W1.drawn + 1 } : World).alloc (.cells (rootV r) 23)) rfl rfl (by kernel_rfl) (by kernel_rfl) (by kernel_rfl) rfl rfl rfl rfl (run_load_cell _ 88 _ (by rfl) ⟨b, 0, none⟩ (by rfl) v (cell_hash kb 0) _ Tryd.underlying88 rfl) (run_load_cell _ 88 _ (by rfl) ⟨b, 0, none⟩ (by rfl) v (cell_hash (heap_past _ _ _ _ kb) 0) _ Tryd.underlying88 rfl) (run_bslice_root _ _ (by rfl) r (by rfl)) (run_bslice_root _ _ (by rfl) r (by rfl)) kn (heap_past _ _ _ _ kn) rfl rfl ?_
    simp only [Act.put, List.setIfInBounds_toArray, List.set_cons_zero, List.set_cons_succ]
    refine oneL (i := 7) rfl (by kernel_rfl) rfl (wp_appS (.tmp 19) (.tmp 21) 88 23 rfl Tryd.underlying88 (.agg (rep 32)) 32 32 info_root rfl (by decide) (b + 1) rs.length v (rcells rs) rfl (own_later (show W1.ownsRow (b + 1) 23 32 v rs.length (rcells rs) from kv) ((Below.refl _ _).drew.alloc (by exact Nat.le_refl _) _)) ⟨W1.heap.size, 0, none⟩ 1 1 rfl (fcells 32 (fun _ => .u8) r) (by rw [fcells_length]) (range_whole (heap_alloc_last _ _)) rfl fcells_mem (by omega) (by omega) (by show b + 1 ≤ ((World.alloc _ _).heap.size); rw [World.size_alloc]; show b + 1 ≤ W1.heap.size + 1; omega) (Nat.le_refl _) (hB1.alloc (by show b + 1 ≤ W1.heap.size; omega) _) (fun v1 W2 h1 b1 z1 o1 _ => ⟨(o1 n (by rw [World.size_alloc]; show n < W1.heap.size + 1; omega) (Ne.symm hvn)).trans (heap_past _ _ _ _ kn), ?_⟩))
    rw [show rs.length + 1 = (rs ++ [r]).length by simp, show rcells rs ++ fcells 32 (fun _ => .u8) r = rcells (rs ++ [r]) by rw [rcells_append, rcells_one]] at h1
    obtain ⟨va1, c1, e1, _⟩ := own_form h1
    subst e1
    simp only [Act.put, List.setIfInBounds_toArray, List.set_cons_zero, List.set_cons_succ]
    have hS : W2.heap[n]? = some (.cells (rootV r) 23 (0, 0)) := (o1 n (by rw [World.size_alloc]; show n < W1.heap.size + 1; omega) (Ne.symm hvn)).trans (heap_past _ _ _ _ kn)
    refine takeL (i := 8) (v := (.pointer (some ⟨b, 0, none⟩))) rfl (by kernel_rfl) (by kernel_rfl) (by kernel_rfl) (fun _ _ _ h => h) rfl (by assumption) (fun w' hS' => by go_simp) ?_
    simp only [Act.put, List.setIfInBounds_toArray, List.set_cons_zero, List.set_cons_succ]
    refine takeL (i := 9) (v := (.pointer (some ⟨b, 0, none⟩))) rfl (by kernel_rfl) (by kernel_rfl) (by kernel_rfl) (fun _ _ _ h => h) rfl (by assumption) (fun w' hS' => by go_simp) ?_
    simp only [Act.put, List.setIfInBounds_toArray, List.set_cons_zero, List.set_cons_succ]
    refine oneL (i := 10) rfl (by kernel_rfl) rfl (wp_store1 88 _ _ rfl b 0 rfl _ rfl rfl sz_rs _ _ ((b1.block b (by omega)).trans hb0.out) (by simp [hashE]) (fun W3 hC3 hx3 => ⟨(hx3.block n (block_lt hS) (by omega)).trans hS, ?_⟩))
    refine wpAnyH_done (by kernel_rfl) ?_ _
    exact ret_none rfl rfl ⟨rfl, ⟨fun x hx => by
      rcases List.mem_append.1 hx with hx | hx
      · exact hrs.out x hx
      · rw [List.mem_singleton.1 hx]; exact hr.out, _, hC3, own_apart h1 hx3 (by omega)⟩, h0.trans (hx3.below (b1.mono (by omega)) (Nat.le_refl _) (by omega))⟩
  · have he2 : (er == 0) = false := by simp [he]
    rw [if_neg he]
    go_wp2_with (
      ((with_reducible refine at_load 36 ?_); refine wpList_value (by rfl) _ (run_load_cell _ 36 _ (by rfl) ⟨b, 1, none⟩ (by rfl) (.int .i64 er) (cell_hash (heap_past _ _ _ _ hb'.out) 1) _ Tryd.underlying36 rfl) ?_))
    try simp only [Act.put]
    refine gen_world (TailW er b w.heap.size v rs r w) ⟨heap_past _ _ _ _ hb'.out, own_later hv'.out ((Below.refl _ _).alloc (Nat.le_refl _) _), heap_new _ _ _ _ rfl, (Below.refl _ _).alloc hz _, hz, by simp, fun k hk => (hlt k hk).2⟩ ?_
    intro W1 hW1
    clear hlt he2
    generalize w.heap.size = n at *
    obtain ⟨kb, kv, kn, kB, kz, ks, kvk⟩ := hW1
    have hvn : v.ownBlock ≠ some n := fun e => by have := (kvk n e); omega
    refine wp_region_held (S := fun w' => w'.heap[n]? = some (.cells (rootV r) 23 (0, 0))) (by kernel_rfl) ?_
    have hS : ({ W1 with drawn := W1.drawn + 1 } : World).heap[n]? = some (.cells (rootV r) 23 (0, 0)) := kn
    have hB1 : Below (b + 1) w { W1 with drawn := W1.drawn + 1 } := kB.drew
    refine takeL (i := 0) (v := (.pointer (some ⟨b, 0, none⟩))) rfl (by kernel_rfl) (by kernel_rfl) (by kernel_rfl) (fun _ _ _ h => h) rfl (by assumption) (fun w' hS' => by go_simp) ?_
    simp only [Act.put, List.setIfInBounds_toArray, List.set_cons_zero, List.set_cons_succ]
    refine takeL (i := 1) (v := (.pointer (some ⟨b, 0, none⟩))) rfl (by kernel_rfl) (by kernel_rfl) (by kernel_rfl) (fun _ _ _ h => h) rfl (by assumption) (fun w' hS' => by go_simp) ?_
    simp only [Act.put, List.setIfInBounds_toArray, List.set_cons_zero, List.set_cons_succ]
    refine takeL (i := 2) (v := (.pointer (some ⟨b, 0, none⟩))) rfl (by kernel_rfl) (by kernel_rfl) (by kernel_rfl) (fun _ _ _ h => h) rfl (by assumption) (fun w' hS' => by go_simp) ?_
    simp only [Act.put, List.setIfInBounds_toArray, List.set_cons_zero, List.set_cons_succ]
    refine takeL (i := 3) (v := (.pointer (some ⟨b, 0, none⟩))) rfl (by kernel_rfl) (by kernel_rfl) (by kernel_rfl) (fun _ _ _ h => h) rfl (by assumption) (fun w' hS' => by go_simp) ?_
    simp only [Act.put, List.setIfInBounds_toArray, List.set_cons_zero, List.set_cons_succ]
    refine takeL (i := 5) (v := (.agg (rootV r))) rfl (by kernel_rfl) (by kernel_rfl) (by kernel_rfl) (fun _ _ _ h => h) rfl (by assumption) (fun w' hS' => run_load_box _ 23 _ (by rfl) n (by rfl) _ (rootV r) (0, 0) _ hS' Tryd.underlying23 rfl (by rw [row_size row_root]; simp [fcells])) ?_
    simp only [Act.put, List.setIfInBounds_toArray, List.set_cons_zero, List.set_cons_succ]
    refine pairL (i := 4) (k := 6) v (.slice (some ⟨W1.heap.size, 0, none⟩) 1 1) (Wn := ({ W1 with drawn := W1.drawn + 1 } : World).alloc (.cells (rootV r) 23)) rfl rfl (by kernel_rfl) (by kernel_rfl) (by kernel_rfl) rfl rfl rfl rfl (run_load_cell _ 88 _ (by rfl) ⟨b, 0, none⟩ (by rfl) v (cell_hash kb 0) _ Tryd.underlying88 rfl) (run_load_cell _ 88 _ (by rfl) ⟨b, 0, none⟩ (by rfl) v (cell_hash (heap_past _ _ _ _ kb) 0) _ Tryd.underlying88 rfl) (run_bslice_root _ _ (by rfl) r (by rfl)) (run_bslice_root _ _ (by rfl) r (by rfl)) kn (heap_past _ _ _ _ kn) rfl rfl ?_
    simp only [Act.put, List.setIfInBounds_toArray, List.set_cons_zero, List.set_cons_succ]
    refine oneL (i := 7) rfl (by kernel_rfl) rfl (wp_appS (.tmp 19) (.tmp 21) 88 23 rfl Tryd.underlying88 (.agg (rep 32)) 32 32 info_root rfl (by decide) (b + 1) rs.length v (rcells rs) rfl (own_later (show W1.ownsRow (b + 1) 23 32 v rs.length (rcells rs) from kv) ((Below.refl _ _).drew.alloc (by exact Nat.le_refl _) _)) ⟨W1.heap.size, 0, none⟩ 1 1 rfl (fcells 32 (fun _ => .u8) r) (by rw [fcells_length]) (range_whole (heap_alloc_last _ _)) rfl fcells_mem (by omega) (by omega) (by show b + 1 ≤ ((World.alloc _ _).heap.size); rw [World.size_alloc]; show b + 1 ≤ W1.heap.size + 1; omega) (Nat.le_refl _) (hB1.alloc (by show b + 1 ≤ W1.heap.size; omega) _) (fun v1 W2 h1 b1 z1 o1 _ => ⟨(o1 n (by rw [World.size_alloc]; show n < W1.heap.size + 1; omega) (Ne.symm hvn)).trans (heap_past _ _ _ _ kn), ?_⟩))
    rw [show rs.length + 1 = (rs ++ [r]).length by simp, show rcells rs ++ fcells 32 (fun _ => .u8) r = rcells (rs ++ [r]) by rw [rcells_append, rcells_one]] at h1
    obtain ⟨va1, c1, e1, _⟩ := own_form h1
    subst e1
    simp only [Act.put, List.setIfInBounds_toArray, List.set_cons_zero, List.set_cons_succ]
    have hS : W2.heap[n]? = some (.cells (rootV r) 23 (0, 0)) := (o1 n (by rw [World.size_alloc]; show n < W1.heap.size + 1; omega) (Ne.symm hvn)).trans (heap_past _ _ _ _ kn)
    refine takeL (i := 8) (v := (.pointer (some ⟨b, 0, none⟩))) rfl (by kernel_rfl) (by kernel_rfl) (by kernel_rfl) (fun _ _ _ h => h) rfl (by assumption) (fun w' hS' => by go_simp) ?_
    simp only [Act.put, List.setIfInBounds_toArray, List.set_cons_zero, List.set_cons_succ]
    refine takeL (i := 9) (v := (.pointer (some ⟨b, 0, none⟩))) rfl (by kernel_rfl) (by kernel_rfl) (by kernel_rfl) (fun _ _ _ h => h) rfl (by assumption) (fun w' hS' => by go_simp) ?_
    simp only [Act.put, List.setIfInBounds_toArray, List.set_cons_zero, List.set_cons_succ]
    refine oneL (i := 10) rfl (by kernel_rfl) rfl (wp_store1 88 _ _ rfl b 0 rfl _ rfl rfl sz_rs _ _ ((b1.block b (by omega)).trans hb'.out) (by simp [hashE]) (fun W3 hC3 hx3 => ⟨(hx3.block n (block_lt hS) (by omega)).trans hS, ?_⟩))
    refine wpAnyH_done (by kernel_rfl) ?_ _
    exact ret_none rfl rfl ⟨rfl, ⟨fun x hx => by
      rcases List.mem_append.1 hx with hx | hx
      · exact hrs.out x hx
      · rw [List.mem_singleton.1 hx]; exact hr.out, _, hC3, own_apart h1 hx3 (by omega)⟩, id (hx3.below (b1.mono (by omega)) (Nat.le_refl _) (by omega))⟩
theorem hash_put (b : Nat) (rs : List (Nat → Int)) (r : Nat → Int) (w : World) (h : HashW b rs w) (hr0 : IsR r) (hlen : rs.length ≤ 1099511627776) :
    Calls Tryd.prog 42 #[.pointer (some ⟨b, 0, none⟩), .agg (rootV r), .int .i64 0] w fun e w' => e = .returned (.tuple #[]) ∧ HashW b (rs ++ [r]) w' ∧ Below b w w' :=
  (hash_putE b 0 0 rs r w h hr0 hlen).mono fun _ _ ⟨h1, h2, h3⟩ => ⟨h1, h2, h3⟩
end Go.Proofs.YtihelknkcomjpaaDoor
namespace Go.Proofs.YtihelknkcomjpaaDoor
open Go.RowKit BigFrame
set_option maxRecDepth 100000
/-- The cells of a root as it is made. -/
def zr : Array Value := rep 32
theorem info_zr : (Tryd.prog.info? 23).map (fun i => (i.zero, i.size)) = some (some (.agg zr), 32) := info_root2
theorem zr_size : zr.size = 32 := rfl
/-- Chunk i of bytes. -/
def chunkL (l : List Int) (i : Nat) : Nat → Int := fun j => if j < 32 then l.getD (32 * i + j) 0 else 0
theorem isB_getD {l : List Int} (h : ∀ m ∈ l, CK.ok .u8 m) (j : Nat) : IsB (l.getD j 0) := by
  by_cases c : j < l.length
  · rw [List.getD, List.getElem?_eq_getElem c]; exact h _ (List.getElem_mem c)
  · rw [List.getD, List.getElem?_eq_none (Nat.le_of_not_lt c)]; exact ⟨by decide, by decide⟩
theorem chunkL_is {l : List Int} (h : ∀ m ∈ l, CK.ok .u8 m) (i : Nat) : IsR (chunkL l i) := fun j hj => by
  unfold chunkL
  rw [if_pos hj]
  exact isB_getD h _
def numR (m : Int) : Nat → Int := chunkL (numL m) 0
theorem numR_is (m : Int) : IsR (numR m) := chunkL_is (numL_ok m) 0
theorem num_cells (m : Int) : (splice (rep 32).toList 0 (fcells 8 (fun _ => .u8) (leB m))).toArray = rootV (numR m) := by
  have hr : (rep 32).toList.length = 32 := rfl
  have hl := fcells_length 8 (fun _ => CK.u8) (leB m)
  refine cells_eq (by rw [List.size_toArray, splice_length (by rw [hr, hl]; omega)]; exact hr) (fun j hj => ?_)
  rw [List.getElem?_toArray, splice_get (by rw [hr, hl]; omega), if_neg (by omega), hl]
  simp only [numR, chunkL, if_pos hj, Nat.mul_zero, Nat.zero_add, Nat.sub_zero]
  by_cases c : j < 8
  · rw [if_pos c, fcells_get _ _ _ _ c]
    simp [numL, List.getD, c, CK.mk]
  · rw [if_neg c]
    have e0 : (numL m).getD j 0 = 0 := by rw [List.getD, List.getElem?_eq_none (by rw [numL_length]; omega)]; rfl
    rw [e0]
    show (List.replicate 32 (Value.int .u8 0))[j]? = _
    rw [List.getElem?_replicate, if_pos hj]
    rfl
def U64W (er : Int) (b n n' : Nat) (v : Value) (rs : List (Nat → Int)) (m : Int) (w W1 : World) : Prop :=
  W1.heap[b]? = some (.cells (hashE er v) 90 (0, 0)) ∧ OwnR (b + 1) v rs W1 ∧ W1.heap[n]? = some (.cells zr 23 (0, 0)) ∧ W1.heap[n']? = some (.cells (numV m) 155 (0, 0)) ∧ Below (b + 1) w W1 ∧ b + 1 ≤ n ∧ n < n' ∧ n' < W1.heap.size ∧ ∀ k, v.ownBlock = some k → k < n
theorem own_apart2 {base b : Nat} {e : TypeId} {sz n : Nat} {v : Value} {cs : List Value} {w w' : World} (h : w.ownsRow base e sz v n cs) (hx : Apart b w w') (hb : v.ownBlock ≠ some b) : w'.ownsRow base e sz v n cs := by
  refine ⟨h.1, ?_⟩
  rcases h.2 with hn | ⟨g, cap, cur, h1, h2, h3, h4⟩
  · exact Or.inl hn
  · exact Or.inr ⟨g, cap, cur, h1, h2, (hx.block g (Array.getElem?_eq_some_iff.1 h3).1 (fun e => hb (by rw [h1, e]; rfl))).trans h3, h4⟩
set_option maxHeartbeats 8000000 in
theorem hash_u64 {er : Int} (b : Nat) (rs : List (Nat → Int)) (m : Int) (w : World) (h : HashE er b rs w) (hlen : rs.length ≤ 1099511627776) :
    Calls Tryd.prog 89 #[.pointer (some ⟨b, 0, none⟩), .int .u64 m] w fun e w' => e = .returned (.tuple #[]) ∧ HashE er b (rs ++ [numR m]) w' ∧ Below b w w' := by
  have hz := h.size
  have hrs := Lib.hid h.is
  obtain ⟨v, hb, hv⟩ := h.has
  have hb' := Lib.hid hb
  have hv' := Lib.hid hv
  have hlt := hv.lt
  clear hb hv h
  have hr := Lib.hid (numR_is m)
  generalize hre : numR m = r at *
  have hre' := Lib.hid hre
  clear hre
  have hm1 := Lib.hid (bytes_any m (w.alloc (.cells zr 23)))
  go_enter Tryd.func89, Tryd.ntmps89
  go_wp2_with (first
    | ((with_reducible refine at_alloc 23 ?_); go_loud (refine wpList_plain rfl fun K hK => wp_alloc_row 23 rfl 4 rfl zr 32 info_zr (hK _ _ ?_)); clear hK K)
    | ((with_reducible refine hm1.out.mono ?_)
       rintro e W ⟨rfl, hbW⟩
       have hbW' := Lib.hid hbW
       clear hbW)
    | ((with_reducible refine at_alloc 155 ?_); go_loud (refine wpList_alloc_store rfl rfl 155 5 _ rfl rfl rfl (numV m) rfl rfl (zeroOf Tryd.prog 155) (row_zero row_b8).1 (row_zero row_b8).2 (numV_one _) ?_)))
  try simp only [Act.put, List.setIfInBounds_toArray, List.set_cons_zero, List.set_cons_succ]
  have hs1 := hbW'.out.size
  rw [World.size_alloc] at hs1
  refine gen_world (U64W er b w.heap.size W.heap.size v rs m w) ⟨heap_past _ _ _ _ ((hbW'.out.block b (by rw [World.size_alloc]; omega)).trans (heap_past _ _ _ _ hb'.out)), own_later (own_later (own_later hv'.out ((Below.refl _ _).alloc (Nat.le_refl _) _)) hbW'.out) ((Below.refl _ _).alloc (Nat.le_refl _) _), heap_past _ _ _ _ ((hbW'.out.block _ (by rw [World.size_alloc]; omega)).trans (heap_new _ _ _ _ rfl)), heap_new _ _ _ _ rfl, ((((Below.refl _ _).alloc hz _).trans (hbW'.out.mono (by rw [World.size_alloc]; omega))).alloc (by omega) _), hz, by omega, by rw [World.size_alloc]; omega, fun k hk => (hlt k hk).2⟩ ?_
  clear hbW' hs1
  generalize W.heap.size = n' at *
  clear W
  intro W0 hW0
  clear hlt
  generalize w.heap.size = n at *
  obtain ⟨kb, kv, kn, kn', kB, kz, kz', ks, kvk⟩ := hW0
  rename_i K hK
  refine wp_region_held (S := fun _ => True) (by kernel_rfl) ?_
  have hS : True := trivial
  refine takeL (i := 0) (v := (.slice (some ⟨n, 0, none⟩) 32 32)) rfl (by kernel_rfl) (by kernel_rfl) (by kernel_rfl) (fun _ _ _ h => h) rfl (by assumption) (fun w' hS' => by go_simp) ?_
  simp only [Act.put, List.setIfInBounds_toArray, List.set_cons_zero, List.set_cons_succ]
  refine takeL (i := 1) (v := (.slice (some ⟨n', 0, none⟩) 8 8)) rfl (by kernel_rfl) (by kernel_rfl) (by kernel_rfl) (fun _ _ _ h => h) rfl (by assumption) (fun w' hS' => by go_simp) ?_
  simp only [Act.put, List.setIfInBounds_toArray, List.set_cons_zero, List.set_cons_succ]
  refine oneL (i := 2) rfl (by kernel_rfl) rfl (wp_copy_gen (.tmp 8) (.tmp 9) 34 34 rfl 5 Tryd.underlying34 sz_u8 n 0 n' 0 32 32 8 8 rfl rfl zr 23 kn (fcells 8 (fun _ => .u8) (leB m)) (by simp [fcells]) (range_whole kn') (by rw [zr_size]; simp [fcells]) (fun u hu => fcells_mem u hu) ?_)
  intro W2 hc0 hx2
  refine ⟨trivial, ?_⟩
  simp only [Act.put, List.setIfInBounds_toArray, List.set_cons_zero, List.set_cons_succ]
  refine wpAnyH_done (by kernel_rfl) ?_ _
  refine hK _ _ ?_
  clear hK K
  have hc2 : W2.heap[n]? = some (.cells (rootV r) 23 (0, 0)) := hre'.out ▸ (num_cells m) ▸ hc0
  have hx2' : Apart n W0 W2 := (Apart.begin _ W0).trans hx2
  refine gen_world (TailW er b n v rs r w) ⟨(hx2'.block b (block_lt kb) (by omega)).trans kb, own_apart2 kv hx2' (fun e => by have := kvk _ e; omega), hc2, hx2'.below kB (by omega) (by omega), kz, block_lt hc2, kvk⟩ ?_
  clear hx2 hx2' hc2 hc0 kb kv kn kn' kB kz kz' ks kvk W2 W0 hS
  intro W1 hW1
  obtain ⟨kb, kv, kn, kB, kz, ks, kvk⟩ := hW1
  have hvn : v.ownBlock ≠ some n := fun e => by have := (kvk n e); omega
  refine wp_region_held (S := fun w' => w'.heap[n]? = some (.cells (rootV r) 23 (0, 0))) (by kernel_rfl) ?_
  have hS : ({ W1 with drawn := W1.drawn + 1 } : World).heap[n]? = some (.cells (rootV r) 23 (0, 0)) := kn
  have hB1 : Below (b + 1) w { W1 with drawn := W1.drawn + 1 } := kB.drew
  refine takeL (i := 0) (v := (.pointer (some ⟨b, 0, none⟩))) rfl (by kernel_rfl) (by kernel_rfl) (by kernel_rfl) (fun _ _ _ h => h) rfl (by assumption) (fun w' hS' => by go_simp) ?_
  simp only [Act.put, List.setIfInBounds_toArray, List.set_cons_zero, List.set_cons_succ]
  refine takeL (i := 1) (v := (.pointer (some ⟨b, 0, none⟩))) rfl (by kernel_rfl) (by kernel_rfl) (by kernel_rfl) (fun _ _ _ h => h) rfl (by assumption) (fun w' hS' => by go_simp) ?_
  simp only [Act.put, List.setIfInBounds_toArray, List.set_cons_zero, List.set_cons_succ]
  refine takeL (i := 2) (v := (.pointer (some ⟨b, 0, none⟩))) rfl (by kernel_rfl) (by kernel_rfl) (by kernel_rfl) (fun _ _ _ h => h) rfl (by assumption) (fun w' hS' => by go_simp) ?_
  simp only [Act.put, List.setIfInBounds_toArray, List.set_cons_zero, List.set_cons_succ]
  refine takeL (i := 3) (v := (.pointer (some ⟨b, 0, none⟩))) rfl (by kernel_rfl) (by kernel_rfl) (by kernel_rfl) (fun _ _ _ h => h) rfl (by assumption) (fun w' hS' => by go_simp) ?_
  simp only [Act.put, List.setIfInBounds_toArray, List.set_cons_zero, List.set_cons_succ]
  refine takeL (i := 5) (v := (.agg (rootV r))) rfl (by kernel_rfl) (by kernel_rfl) (by kernel_rfl) (fun _ _ _ h => h) rfl (by assumption) (fun w' hS' => run_load_box _ 23 _ (by rfl) n (by rfl) _ (rootV r) (0, 0) _ hS' Tryd.underlying23 rfl (by rw [row_size row_root]; simp [fcells])) ?_
  simp only [Act.put, List.setIfInBounds_toArray, List.set_cons_zero, List.set_cons_succ]
  refine pairL (i := 4) (k := 6) v (.slice (some ⟨W1.heap.size, 0, none⟩) 1 1) (Wn := ({ W1 with drawn := W1.drawn + 1 } : World).alloc (.cells (rootV r) 23)) rfl rfl (by kernel_rfl) (by kernel_rfl) (by kernel_rfl) rfl rfl rfl rfl (run_load_cell _ 88 _ (by rfl) ⟨b, 0, none⟩ (by rfl) v (cell_hash kb 0) _ Tryd.underlying88 rfl) (run_load_cell _ 88 _ (by rfl) ⟨b, 0, none⟩ (by rfl) v (cell_hash (heap_past _ _ _ _ kb) 0) _ Tryd.underlying88 rfl) (run_bslice_root _ _ (by rfl) r (by rfl)) (run_bslice_root _ _ (by rfl) r (by rfl)) kn (heap_past _ _ _ _ kn) rfl rfl ?_
  simp only [Act.put, List.setIfInBounds_toArray, List.set_cons_zero, List.set_cons_succ]
  refine oneL (i := 7) rfl (by kernel_rfl) rfl (wp_appS (.tmp 15) (.tmp 17) 88 23 rfl Tryd.underlying88 (.agg (rep 32)) 32 32 info_root rfl (by decide) (b + 1) rs.length v (rcells rs) rfl (own_later (show W1.ownsRow (b + 1) 23 32 v rs.length (rcells rs) from kv) ((Below.refl _ _).drew.alloc (by exact Nat.le_refl _) _)) ⟨W1.heap.size, 0, none⟩ 1 1 rfl (fcells 32 (fun _ => .u8) r) (by rw [fcells_length]) (range_whole (heap_alloc_last _ _)) rfl fcells_mem (by omega) (by omega) (by show b + 1 ≤ ((World.alloc _ _).heap.size); rw [World.size_alloc]; show b + 1 ≤ W1.heap.size + 1; omega) (Nat.le_refl _) (hB1.alloc (by show b + 1 ≤ W1.heap.size; omega) _) (fun v1 W2 h1 b1 z1 o1 _ => ⟨(o1 n (by rw [World.size_alloc]; show n < W1.heap.size + 1; omega) (Ne.symm hvn)).trans (heap_past _ _ _ _ kn), ?_⟩))
  rw [show rs.length + 1 = (rs ++ [r]).length by simp, show rcells rs ++ fcells 32 (fun _ => .u8) r = rcells (rs ++ [r]) by rw [rcells_append, rcells_one]] at h1
  obtain ⟨va1, c1, e1, _⟩ := own_form h1
  subst e1
  simp only [Act.put, List.setIfInBounds_toArray, List.set_cons_zero, List.set_cons_succ]
  have hS : W2.heap[n]? = some (.cells (rootV r) 23 (0, 0)) := (o1 n (by rw [World.size_alloc]; show n < W1.heap.size + 1; omega) (Ne.symm hvn)).trans (heap_past _ _ _ _ kn)
  refine takeL (i := 8) (v := (.pointer (some ⟨b, 0, none⟩))) rfl (by kernel_rfl) (by kernel_rfl) (by kernel_rfl) (fun _ _ _ h => h) rfl (by assumption) (fun w' hS' => by go_simp) ?_
  simp only [Act.put, List.setIfInBounds_toArray, List.set_cons_zero, List.set_cons_succ]
  refine takeL (i := 9) (v := (.pointer (some ⟨b, 0, none⟩))) rfl (by kernel_rfl) (by kernel_rfl) (by kernel_rfl) (fun _ _ _ h => h) rfl (by assumption) (fun w' hS' => by go_simp) ?_
  simp only [Act.put, List.setIfInBounds_toArray, List.set_cons_zero, List.set_cons_succ]
  refine oneL (i := 10) rfl (by kernel_rfl) rfl (wp_store1 88 _ _ rfl b 0 rfl _ rfl rfl sz_rs _ _ ((b1.block b (by omega)).trans hb'.out) (by simp [hashE]) (fun W3 hC3 hx3 => ⟨(hx3.block n (block_lt hS) (by omega)).trans hS, ?_⟩))
  refine wpAnyH_done (by kernel_rfl) ?_ _
  exact ret_none rfl rfl ⟨rfl, ⟨fun x hx => by
    rcases List.mem_append.1 hx with hx | hx
    · exact hrs.out x hx
    · rw [List.mem_singleton.1 hx]; exact hr.out, _, hC3, own_apart h1 hx3 (by omega)⟩, id (hx3.below (b1.mono (by omega)) (Nat.le_refl _) (by omega))⟩
end Go.Proofs.YtihelknkcomjpaaDoor
