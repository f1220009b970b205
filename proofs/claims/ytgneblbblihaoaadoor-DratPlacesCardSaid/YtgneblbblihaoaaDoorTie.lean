/-
  DERIVED. GIVEN WITH THE SEED: THE PROGRAM's TIES (one call each: nine closed facts by the kernel) AND EACH ROW's TIE, after the 31st guide's Derived/Test/Toyas{Tie, Card}.lean. No idea stands in it: it is a product of the set-up. Laid BY PROGRAM, IN A SANDBOX (cutbox-door.mjs). By AI agents, Wed Nov 11 2026. No macro, syntax, notation, axiom, sorry.
-/
import Derived.Test.YtgneblbblihaoaaDoorRows
import Derived.LaidByTextLater
import Derived.SevenTiedAt
import Derived.LaidSub
import Derived.LaidOnce
namespace Go.Proofs.YtgneblbblihaoaaDoor
open Go
set_option maxRecDepth 100000
theorem seatTie1 : Tryd.prog.laidByTextLater [("skolem/api.ErrText", Rows.laid_skolem_api_ErrText), ("skolem/api.ErrLimit", Rows.laid_skolem_api_ErrLimit), ("skolem/api.ErrBudget", Rows.laid_skolem_api_ErrBudget), ("skolem/api.ErrRange", Rows.laid_skolem_api_ErrRange), ("skolem/api.ErrBlocks", Rows.laid_skolem_api_ErrBlocks), ("skolem/api.ErrProof", Rows.laid_skolem_api_ErrProof), ("skolem/api.ErrCert", Rows.laid_skolem_api_ErrCert)] [.sentinel, .sentinel, .sentinel, .sentinel, .sentinel, .sentinel, .sentinel] true :=
  Program.laidByTextLater_by_one 142 8 2 (by kernel_rfl) (by kernel_rfl) (by kernel_rfl) (by kernel_rfl) (by kernel_rfl) (by kernel_rfl) (fun _ _ => by kernel_rfl)
theorem noOwnUnsafe : Tryd.pinned.checked.prog.headLifts.contains "ownunsafe" = false := by kernel_rfl
theorem tie : Tryd.prog.laidByTextLater [("skolem/api.ErrText", Rows.laid_skolem_api_ErrText), ("skolem/api.ErrLimit", Rows.laid_skolem_api_ErrLimit), ("skolem/api.ErrBudget", Rows.laid_skolem_api_ErrBudget), ("skolem/api.ErrRange", Rows.laid_skolem_api_ErrRange), ("skolem/api.ErrBlocks", Rows.laid_skolem_api_ErrBlocks), ("skolem/api.ErrProof", Rows.laid_skolem_api_ErrProof), ("skolem/api.ErrCert", Rows.laid_skolem_api_ErrCert)] [.sentinel, .sentinel, .sentinel, .sentinel, .sentinel, .sentinel, .sentinel] true :=
  Program.laidByTextLater.sub seatTie1 ["skolem/api.ErrText", "skolem/api.ErrLimit", "skolem/api.ErrBudget", "skolem/api.ErrRange", "skolem/api.ErrBlocks", "skolem/api.ErrProof", "skolem/api.ErrCert"] (by kernel_rfl) (by kernel_rfl)
theorem prefixSays_row_tie : Rows.prefixSaysRow.laidByTextAt .later Tryd.pinned [.sentinel, .sentinel, .sentinel, .sentinel, .sentinel, .sentinel, .sentinel] true :=
  OpenClaim.laidByTextAt_later rfl rfl tie noOwnUnsafe
theorem prefixBlocks_row_tie : Rows.prefixBlocksRow.laidByTextAt .later Tryd.pinned [.sentinel, .sentinel, .sentinel, .sentinel, .sentinel, .sentinel, .sentinel] true :=
  OpenClaim.laidByTextAt_later rfl rfl tie noOwnUnsafe
theorem dratPlaces_row_tie : Rows.dratPlacesRow.laidByTextAt .later Tryd.pinned [.sentinel, .sentinel, .sentinel, .sentinel, .sentinel, .sentinel, .sentinel] true :=
  OpenClaim.laidByTextAt_later rfl rfl tie noOwnUnsafe
theorem dratGoals_row_tie : Rows.dratGoalsRow.laidByTextAt .later Tryd.pinned [.sentinel, .sentinel, .sentinel, .sentinel, .sentinel, .sentinel, .sentinel] true :=
  OpenClaim.laidByTextAt_later rfl rfl tie noOwnUnsafe
theorem dratDrops_row_tie : Rows.dratDropsRow.laidByTextAt .later Tryd.pinned [.sentinel, .sentinel, .sentinel, .sentinel, .sentinel, .sentinel, .sentinel] true :=
  OpenClaim.laidByTextAt_later rfl rfl tie noOwnUnsafe
theorem incrLimits_row_tie : Rows.incrLimitsRow.laidByTextAt .later Tryd.pinned [.sentinel, .sentinel, .sentinel, .sentinel, .sentinel, .sentinel, .sentinel] true :=
  OpenClaim.laidByTextAt_later rfl rfl tie noOwnUnsafe
theorem incrSays_row_tie : Rows.incrSaysRow.laidByTextAt .later Tryd.pinned [.sentinel, .sentinel, .sentinel, .sentinel, .sentinel, .sentinel, .sentinel] true :=
  OpenClaim.laidByTextAt_later rfl rfl tie noOwnUnsafe
theorem tie2 : Tryd.prog.laidByTextLater [("skolem/api.ErrLimit", Rows.laid_skolem_api_ErrLimit), ("skolem/api.ErrRange", Rows.laid_skolem_api_ErrRange), ("skolem/api.ErrBlocks", Rows.laid_skolem_api_ErrBlocks)] [.sentinel, .sentinel, .sentinel] true :=
  Program.laidByTextLater.sub seatTie1 ["skolem/api.ErrLimit", "skolem/api.ErrRange", "skolem/api.ErrBlocks"] (by kernel_rfl) (by kernel_rfl)
theorem prefixMerges_row_tie : Rows.prefixMergesRow.laidByTextAt .later Tryd.pinned [.sentinel, .sentinel, .sentinel] true :=
  OpenClaim.laidByTextAt_later rfl rfl tie2 noOwnUnsafe
theorem prefixFree_row_tie : Rows.prefixFreeRow.laidByTextAt .later Tryd.pinned [.sentinel, .sentinel, .sentinel] true :=
  OpenClaim.laidByTextAt_later rfl rfl tie2 noOwnUnsafe
theorem prefixMatrix_row_tie : Rows.prefixMatrixRow.laidByTextAt .later Tryd.pinned [.sentinel, .sentinel, .sentinel] true :=
  OpenClaim.laidByTextAt_later rfl rfl tie2 noOwnUnsafe
theorem tie3 : Tryd.prog.laidByTextLater [("skolem/api.ErrLimit", Rows.laid_skolem_api_ErrLimit), ("skolem/api.ErrRange", Rows.laid_skolem_api_ErrRange), ("skolem/api.ErrProof", Rows.laid_skolem_api_ErrProof)] [.sentinel, .sentinel, .sentinel] true :=
  Program.laidByTextLater.sub seatTie1 ["skolem/api.ErrLimit", "skolem/api.ErrRange", "skolem/api.ErrProof"] (by kernel_rfl) (by kernel_rfl)
theorem dratSound_row_tie : Rows.dratSoundRow.laidByTextAt .later Tryd.pinned [.sentinel, .sentinel, .sentinel] true :=
  OpenClaim.laidByTextAt_later rfl rfl tie3 noOwnUnsafe
theorem prefixSaysUpto_row_tie : Rows.prefixSaysUptoRow.laidByTextAt .later Tryd.pinned [.sentinel, .sentinel, .sentinel, .sentinel, .sentinel, .sentinel, .sentinel] true :=
  OpenClaim.laidByTextAt_later rfl rfl tie noOwnUnsafe
theorem prefixMergesUpto_row_tie : Rows.prefixMergesUptoRow.laidByTextAt .later Tryd.pinned [.sentinel, .sentinel, .sentinel] true :=
  OpenClaim.laidByTextAt_later rfl rfl tie2 noOwnUnsafe
theorem prefixFreeUpto_row_tie : Rows.prefixFreeUptoRow.laidByTextAt .later Tryd.pinned [.sentinel, .sentinel, .sentinel] true :=
  OpenClaim.laidByTextAt_later rfl rfl tie2 noOwnUnsafe
theorem prefixBlocksUpto_row_tie : Rows.prefixBlocksUptoRow.laidByTextAt .later Tryd.pinned [.sentinel, .sentinel, .sentinel, .sentinel, .sentinel, .sentinel, .sentinel] true :=
  OpenClaim.laidByTextAt_later rfl rfl tie noOwnUnsafe
theorem prefixMatrixUpto_row_tie : Rows.prefixMatrixUptoRow.laidByTextAt .later Tryd.pinned [.sentinel, .sentinel, .sentinel] true :=
  OpenClaim.laidByTextAt_later rfl rfl tie2 noOwnUnsafe
theorem dratSoundUpto_row_tie : Rows.dratSoundUptoRow.laidByTextAt .later Tryd.pinned [.sentinel, .sentinel, .sentinel] true :=
  OpenClaim.laidByTextAt_later rfl rfl tie3 noOwnUnsafe
theorem dratPlacesUpto_row_tie : Rows.dratPlacesUptoRow.laidByTextAt .later Tryd.pinned [.sentinel, .sentinel, .sentinel, .sentinel, .sentinel, .sentinel, .sentinel] true :=
  OpenClaim.laidByTextAt_later rfl rfl tie noOwnUnsafe
theorem dratGoalsUpto_row_tie : Rows.dratGoalsUptoRow.laidByTextAt .later Tryd.pinned [.sentinel, .sentinel, .sentinel, .sentinel, .sentinel, .sentinel, .sentinel] true :=
  OpenClaim.laidByTextAt_later rfl rfl tie noOwnUnsafe
theorem dratDropsUpto_row_tie : Rows.dratDropsUptoRow.laidByTextAt .later Tryd.pinned [.sentinel, .sentinel, .sentinel, .sentinel, .sentinel, .sentinel, .sentinel] true :=
  OpenClaim.laidByTextAt_later rfl rfl tie noOwnUnsafe
theorem incrLimitsUpto_row_tie : Rows.incrLimitsUptoRow.laidByTextAt .later Tryd.pinned [.sentinel, .sentinel, .sentinel, .sentinel, .sentinel, .sentinel, .sentinel] true :=
  OpenClaim.laidByTextAt_later rfl rfl tie noOwnUnsafe
theorem incrSaysUpto_row_tie : Rows.incrSaysUptoRow.laidByTextAt .later Tryd.pinned [.sentinel, .sentinel, .sentinel, .sentinel, .sentinel, .sentinel, .sentinel] true :=
  OpenClaim.laidByTextAt_later rfl rfl tie noOwnUnsafe
end Go.Proofs.YtgneblbblihaoaaDoor
