/- VoteFlags: the walk. -/
import Derived.Test.YtbfmbgeibhkheaaAwake
namespace Go.Proofs.Ytbfmbgeibhkheaa
open Go.RowKit
set_option maxRecDepth 100000

set_option maxHeartbeats 4000000 in
theorem law3_walk (xs ds : Array Value) (w : World) (x0 x1 x2 : Bool) (ec : Int) (hxs : xs.size = 1957) (hds : ds.size = 100)
    (hA : ∀ W, Below w.heap.size w W → Calls Try.prog 6 #[.agg xs, .agg ds] W fun e w' => e = .returned (.tuple #[.agg #[.bool x0, .bool x1, .bool x2], .int .i64 ec]) ∧ Below W.heap.size W w')
    (hB : ∀ W, Below w.heap.size w W → Calls Try.prog 7 #[.agg xs, .agg ds] W fun e w' => e = .returned (.tuple #[.agg #[.bool x0, .bool x1, .bool x2], .int .i64 ec]) ∧ Below W.heap.size W w') :
    Calls Try.prog 3 #[.agg xs, .agg ds] w fun e w' => e = .returned (.bool true) ∧ Below w.heap.size w w' := by
  have hi := Lib.hid (show (Try.prog.info? 49).map (·.size) = some xs.size by rw [hxs]; exact row_size rowT_49)
  have hj := Lib.hid (show (Try.prog.info? 51).map (·.size) = some ds.size by rw [hds]; exact row_size rowT_51)
  have hb0 : Below w.heap.size w ((w.alloc (.cells xs 49)).alloc (.cells ds 51)) := ((Below.refl _ _).alloc (Nat.le_refl _) _).alloc (by simp) _
  have hX0 := heap_past _ (.cells ds 51) _ _ (heap_alloc_last w (.cells xs 49))
  have hD0 : ((w.alloc (.cells xs 49)).alloc (.cells ds 51)).heap[w.heap.size + 1]? = some (.cells ds 51 (0, 0)) := heap_alloc2_new w _ _
  have h0 := Lib.hid awake_any
  have h1 := Lib.hid hA
  have h2 := Lib.hid hB
  clear hA hB hxs hds
  have hself : ((x0 == x0) && ((x1 == x1) && (x2 == x2))) = true := by simp
  go_enter Try.func3, Try.ntmps3
  go_wp2_with (first
    | ((with_reducible refine at_binop .eql 53 ?_); refine wpList_value (by rfl) (.bool true) ((run_eql_b3 _ _ _ (by rfl) x0 x1 x2 x0 x1 x2 (by rfl) (by rfl)).trans (by rw [hself])) ?_)
    | ((with_reducible refine at_alloc 53 ?_); first
        | refine wpList_alloc_store rfl rfl 53 5 _ rfl rfl rfl #[.bool x0, .bool x1, .bool x2] rfl rfl (zeroOf Try.prog 53) (info_b3 _ _ _) (zsz_b3 _ _ _) rfl ?_
        | refine wpList_alloc_store rfl rfl 53 7 _ rfl rfl rfl #[.bool x0, .bool x1, .bool x2] rfl rfl (zeroOf Try.prog 53) (info_b3 _ _ _) (zsz_b3 _ _ _) rfl ?_)
    | ((with_reducible refine at_load 49 ?_); refine wpList_value (by rfl) _ (run_load_box _ 49 _ (by rfl) w.heap.size (by rfl) _ xs (0, 0) _ (by first | exact hXa | exact hXb) Try.underlying49 rfl hi.out) ?_)
    | ((with_reducible refine at_load 51 ?_); refine wpList_value (by rfl) _ (run_load_box _ 51 _ (by rfl) (w.heap.size + 1) (by rfl) _ ds (0, 0) _ (by first | exact hDa | exact hDb) Try.underlying51 rfl hj.out) ?_)
    | ((with_reducible refine at_load 53 ?_); first
        | refine wpList_value (by rfl) _ (run_load_box _ 53 _ (by rfl) W1.heap.size (by rfl) _ #[.bool x0, .bool x1, .bool x2] (0, 0) _ hF1 Try.underlying53 rfl (isz_b3 _ _ _)) ?_
        | refine wpList_value (by rfl) _ (run_load_box _ 53 _ (by rfl) W2.heap.size (by rfl) _ #[.bool x0, .bool x1, .bool x2] (0, 0) _ hF2 Try.underlying53 rfl (isz_b3 _ _ _)) ?_)
    | ((with_reducible refine (h0.out _).mono ?_); rintro e W0 ⟨rfl, hbA⟩
       have hs0 := hbA.size
       simp only [World.size_alloc] at hs0
       have hXa := (hbA.block _ (by simp only [World.size_alloc]; omega)).trans hX0
       have hDa := (hbA.block _ (by simp only [World.size_alloc]; omega)).trans hD0
       have bA : Below w.heap.size w W0 := hb0.trans (hbA.mono (by simp only [World.size_alloc]; omega)))
    | ((with_reducible refine (h1.out _ bA).mono ?_); rintro e W1 ⟨rfl, hb1⟩
       have hs1 := hb1.size
       have hXb : (W1.alloc (.cells #[.bool x0, .bool x1, .bool x2] 53)).heap[w.heap.size]? = some (.cells xs 49 (0, 0)) := heap_past _ _ _ _ ((hb1.block _ (by omega)).trans hXa)
       have hDb : (W1.alloc (.cells #[.bool x0, .bool x1, .bool x2] 53)).heap[w.heap.size + 1]? = some (.cells ds 51 (0, 0)) := heap_past _ _ _ _ ((hb1.block _ (by omega)).trans hDa)
       have bB : Below w.heap.size w (W1.alloc (.cells #[.bool x0, .bool x1, .bool x2] 53)) := (bA.trans (hb1.mono (by omega))).alloc (by omega) _)
    | ((with_reducible refine (h2.out _ bB).mono ?_); rintro e W2 ⟨rfl, hb2⟩
       have hs2 := hb2.size
       simp only [World.size_alloc] at hs2
       have hF1 : (W2.alloc (.cells #[.bool x0, .bool x1, .bool x2] 53)).heap[W1.heap.size]? = some (.cells #[.bool x0, .bool x1, .bool x2] 53 (0, 0)) := heap_past _ _ _ _ ((hb2.block _ (by simp only [World.size_alloc]; omega)).trans (heap_alloc_last _ _))
       have hF2 := heap_alloc_last W2 (.cells #[.bool x0, .bool x1, .bool x2] 53)
       have bC : Below w.heap.size w (W2.alloc (.cells #[.bool x0, .bool x1, .bool x2] 53)) := (bB.trans (hb2.mono (by simp only [World.size_alloc]; omega))).alloc (by omega) _))
  go_ret
  exact ⟨rfl, bC⟩

theorem vote_shape (xs ds : Array Value) (s : Sx) (d : Nat → Int) : ∃ x0 x1 x2 ec, voteV xs ds s d = .tuple #[.agg #[.bool x0, .bool x1, .bool x2], .int .i64 ec] := by
  unfold voteV
  split
  · exact ⟨_, _, _, _, rfl⟩
  · split
    · exact ⟨_, _, _, _, rfl⟩
    · split
      · exact ⟨_, _, _, _, rfl⟩
      · exact ⟨_, _, _, _, rfl⟩
/-- VoteFlags answers true. -/
theorem law3_any (xs ds : Array Value) (s : Sx) (d : Nat → Int) (w : World) (hs : StRep w xs s) (hd : FRep 100 dtK ds d) :
    Calls Try.prog 3 #[.agg xs, .agg ds] w fun e w' => e = .returned (.bool true) ∧ Below w.heap.size w w' := by
  obtain ⟨x0, x1, x2, ec, he⟩ := vote_shape xs ds s d
  refine law3_walk xs ds w x0 x1 x2 ec hs.size hd.size ?_ ?_
  · intro W hb
    rw [← he]
    exact flags_any xs ds s d W (hs.later hb) hd
  · intro W hb
    rw [← he]
    exact rflags19_any xs ds s d W (hs.later hb) hd
end Go.Proofs.Ytbfmbgeibhkheaa
