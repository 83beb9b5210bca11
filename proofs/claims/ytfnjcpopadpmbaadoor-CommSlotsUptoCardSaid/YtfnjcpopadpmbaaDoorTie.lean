/-
  DERIVED. GIVEN WITH THE SEED: THE PROGRAM's TIES (one call each: nine closed facts by the kernel) AND EACH ROW's TIE, after the 31st guide's Derived/Test/Toyas{Tie, Card}.lean. No idea stands in it: it is a product of the set-up. Laid BY PROGRAM, IN A SANDBOX (cutbox-door.mjs). By AI agents, Wed Nov 11 2026. No macro, syntax, notation, axiom, sorry.
-/
import Derived.Test.YtfnjcpopadpmbaaDoorRows
import Derived.LaidByTextLater
import Derived.SevenTiedAt
import Derived.LaidSub
import Derived.LaidOnce
namespace Go.Proofs.YtfnjcpopadpmbaaDoor
open Go
set_option maxRecDepth 100000
theorem seatTie1 : Tryd.prog.laidByTextLater [("pharos/pharosref02.constants", Rows.laid_pharos_pharosref02_constants), ("pharos/sha.start", Rows.laid_pharos_sha_start), ("pharos/sha.round", Rows.laid_pharos_sha_round)] [.data, .data, .data] true :=
  Program.laidByTextLater_by_one 24 8 65 (by kernel_rfl) (by kernel_rfl) (by kernel_rfl) (by kernel_rfl) (by kernel_rfl) (by kernel_rfl) (fun _ _ => by kernel_rfl)
theorem noOwnUnsafe : Tryd.pinned.checked.prog.headLifts.contains "ownunsafe" = false := by kernel_rfl
theorem tie : Tryd.prog.laidByTextLater [("pharos/sha.start", Rows.laid_pharos_sha_start), ("pharos/sha.round", Rows.laid_pharos_sha_round)] [.data, .data] true :=
  Program.laidByTextLater.sub seatTie1 ["pharos/sha.start", "pharos/sha.round"] (by kernel_rfl) (by kernel_rfl)
theorem commAll_row_tie : Rows.commAllRow.laidByTextAt .later Tryd.pinned [.data, .data] true :=
  OpenClaim.laidByTextAt_later rfl rfl tie noOwnUnsafe
theorem commBits_row_tie : Rows.commBitsRow.laidByTextAt .later Tryd.pinned [.data, .data] true :=
  OpenClaim.laidByTextAt_later rfl rfl tie noOwnUnsafe
theorem tie2 : Tryd.prog.laidByTextLater [("pharos/pharosref02.constants", Rows.laid_pharos_pharosref02_constants), ("pharos/sha.start", Rows.laid_pharos_sha_start), ("pharos/sha.round", Rows.laid_pharos_sha_round)] [.data, .data, .data] true :=
  Program.laidByTextLater.sub seatTie1 ["pharos/pharosref02.constants", "pharos/sha.start", "pharos/sha.round"] (by kernel_rfl) (by kernel_rfl)
theorem commSlots_row_tie : Rows.commSlotsRow.laidByTextAt .later Tryd.pinned [.data, .data, .data] true :=
  OpenClaim.laidByTextAt_later rfl rfl tie2 noOwnUnsafe
theorem commAllUpto_row_tie : Rows.commAllUptoRow.laidByTextAt .later Tryd.pinned [.data, .data] true :=
  OpenClaim.laidByTextAt_later rfl rfl tie noOwnUnsafe
theorem commBitsUpto_row_tie : Rows.commBitsUptoRow.laidByTextAt .later Tryd.pinned [.data, .data] true :=
  OpenClaim.laidByTextAt_later rfl rfl tie noOwnUnsafe
theorem commSlotsUpto_row_tie : Rows.commSlotsUptoRow.laidByTextAt .later Tryd.pinned [.data, .data, .data] true :=
  OpenClaim.laidByTextAt_later rfl rfl tie2 noOwnUnsafe
end Go.Proofs.YtfnjcpopadpmbaaDoor
