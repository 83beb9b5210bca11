/- A list is shuffled. -/
import Derived.Test.YtfnjcpopadpmbaaDoorKCmG
set_option linter.unusedVariables false
set_option linter.unusedSimpArgs false
set_option linter.unnecessarySimpa false
namespace Go.Proofs.YtfnjcpopadpmbaaDoor
open Go.RowKit BigFrame
set_option maxRecDepth 100000
theorem run_build0u (w : World) : (Instr.buildSlice 37 0 #[]).run Tryd.prog w = .ok (.slice (some ⟨w.heap.size, 0, none⟩) 0 0) (w.alloc (.cells #[] 22)) := by kernel_rfl
theorem wp_build0u {o : Oper} {a : Act} {w : World} {K : Act → World → Prop} {Q : Exit → Act → World → Prop} (ho : o.op = .buildSlice 37 0 #[]) (h : K (a.put o.dst (.slice (some ⟨w.heap.size, 0, none⟩) 0 0)) (w.alloc (.cells #[] 22))) : o.wp Tryd.prog a w K Q := by
  unfold Oper.wp execOp
  have e : (#[] : Array (Nat × Operand)).map (fun x => match x with | (i, x) => (i, a.eval x)) = #[] := by simp
  simp only [ho, e, Sem.run_bind, run_build0u w, Result.andThen_ok]
  exact h
theorem info_u64 : (Tryd.prog.info? 22).map (fun i => (i.zero, i.size, i.bytes)) = some (some (.int .u64 0), 1, 8) := by kernel_rfl
theorem mem_u64 {l : List Int} : ∀ v ∈ l.map (Value.int .u64), v.oneCell' = true := fun v hv => by
  obtain ⟨n, _, rfl⟩ := List.mem_map.1 hv
  rfl
theorem run_eql_nil64 (a : Addr) (n c : Nat) (w : World) : (binOp BinOp.eql 37 (.slice (some a) n c) (.slice none 0 0)).run Tryd.prog w = .ok (.bool false) w := by kernel_rfl
theorem OwU.nil (base : Nat) (w : World) : OwU base (.slice none 0 0) [] w := ⟨rfl, Or.inl ⟨rfl, rfl⟩⟩
set_option maxHeartbeats 1000000 in
theorem clone_nil (w : World) :
    Calls Tryd.prog 23 #[.slice none 0 0] w fun e w' => e = .returned (.slice none 0 0) ∧ w' = w := by
  have heq : ∀ w, (binOp BinOp.eql 37 (.slice none 0 0) (.slice none 0 0)).run Tryd.prog w = .ok (.bool true) w := fun w => by kernel_rfl
  go_enter Tryd.func23, Tryd.ntmps23
  go_wp2
  exact ret_t1 rfl _ rfl rfl ⟨rfl, rfl⟩
set_option maxHeartbeats 1000000 in
theorem clone_some (l : List Int) (b o c : Nat) (w : World) (hr0 : w.rangeAt b o (l.map (Value.int .u64))) (hfew : l.length ≤ 1000000) :
    Calls Tryd.prog 23 #[.slice (some ⟨b, o, none⟩) l.length c] w fun e w' => ∃ v, e = .returned v ∧ OwU w.heap.size v l w' ∧ Below w.heap.size w w' := by
  have hr := Lib.hid (show (w.alloc (.cells #[] 22)).rangeAt b o (l.map (Value.int .u64)) from fun j u hu => (Below.cell ((Below.refl w.heap.size w).alloc (Nat.le_refl _) _) (block_lt_of_cell (hr0 j u hu))).trans (hr0 j u hu))
  clear hr0
  have heq := fun w => run_eql_nil64 ⟨b, o, none⟩ l.length c w
  obtain ⟨n, hn⟩ : ∃ n, n = l.length := ⟨_, rfl⟩
  have hl := Lib.hid (show (l.map (Value.int .u64)).length = n * 1 by rw [List.length_map, hn, Nat.mul_one])
  have hn' := Lib.hid hn
  rw [← hn] at heq hfew ⊢
  clear hn
  go_enter Tryd.func23, Tryd.ntmps23
  go_wp2_with (first
    | ((with_reducible refine at_bslice 37 ?_); go_loud (refine wpList_plain rfl fun K hK => wp_build0u rfl (hK _ _ ?_)); clear hK K)
    | ((with_reducible refine at_appC 37 ?_)
       go_loud (refine wpList_plain rfl fun K hK => wp_appS (w0 := w) (n0 := w.heap.size) (.tmp 5) (.tmp 6) 37 22 rfl Tryd.underlying37 (.int .u64 0) 1 8 info_u64 rfl (by decide) w.heap.size 0 (.slice (some ⟨w.heap.size, 0, none⟩) 0 0) [] rfl ⟨rfl, Or.inr ⟨w.heap.size, 0, #[], rfl, Nat.le_refl _, heap_new _ _ _ _ rfl, by decide, by decide, by simp, by simp⟩⟩ ⟨b, o, none⟩ n c rfl (l.map (Value.int .u64)) hl.out hr.out rfl mem_u64 (by omega) (by omega) (by simp) (Nat.le_refl _) ((Below.refl _ _).alloc (Nat.le_refl _) _) (fun v' W1 h1 h2 h3 h4 h5 => hK _ _ ?_))
       clear hK K
       rw [List.nil_append, Nat.zero_add] at h1
       have g1 := Lib.hid h1
       have g2 := Lib.hid h2
       clear h1 h2 h3 h4 h5))
  exact ret_t1 rfl _ rfl rfl ⟨_, rfl, by unfold OwU; rw [← hn'.out]; exact g1.out, g2.out⟩
end Go.Proofs.YtfnjcpopadpmbaaDoor
