/-
  DERIVED. GIVEN WITH THE SEED: THE PROGRAM's TIES (one call each: nine closed facts by the kernel) AND EACH ROW's TIE, after the 31st guide's Derived/Test/Toyas{Tie, Card}.lean. No idea stands in it: it is a product of the set-up. Laid BY PROGRAM, IN A SANDBOX (cutbox-door.mjs). By AI agents, Wed Nov 11 2026. No macro, syntax, notation, axiom, sorry.
-/
import Derived.Test.YtahomnplappbpaaGreatDoorRows
import Derived.LaidByTextLater
import Derived.SevenTiedAt
import Derived.LaidSub
import Derived.LaidOnce
namespace Go.Proofs.YtahomnplappbpaaGreatDoor
open Go
set_option maxRecDepth 100000
theorem seatTie1 : Tryz.prog.laidByTextLater [("cutroom/quant.alternateScan", Rows.laid_cutroom_quant_alternateScan), ("cutroom/quant.defaultIntra", Rows.laid_cutroom_quant_defaultIntra)] [.data, .data] true :=
  Program.laidByTextLater_by_one 19 8 65 (by kernel_rfl) (by kernel_rfl) (by kernel_rfl) (by kernel_rfl) (by kernel_rfl) (by kernel_rfl) (fun _ _ => by kernel_rfl)
theorem noOwnUnsafe : Tryz.pinned.checked.prog.headLifts.contains "ownunsafe" = false := by kernel_rfl
theorem tie : Tryz.prog.laidByTextLater [("cutroom/quant.alternateScan", Rows.laid_cutroom_quant_alternateScan), ("cutroom/quant.defaultIntra", Rows.laid_cutroom_quant_defaultIntra)] [.data, .data] true :=
  Program.laidByTextLater.sub seatTie1 ["cutroom/quant.alternateScan", "cutroom/quant.defaultIntra"] (by kernel_rfl) (by kernel_rfl)
theorem streamStructure_row_tie : Rows.streamStructureRow.laidByTextAt .later Tryz.pinned [.data, .data] true :=
  OpenClaim.laidByTextAt_later rfl rfl tie noOwnUnsafe
theorem tie2 : Tryz.prog.laidByTextLater [("cutroom/quant.alternateScan", Rows.laid_cutroom_quant_alternateScan)] [.data] true :=
  Program.laidByTextLater.sub seatTie1 ["cutroom/quant.alternateScan"] (by kernel_rfl) (by kernel_rfl)
theorem macroblockReconstructs_row_tie : Rows.macroblockReconstructsRow.laidByTextAt .later Tryz.pinned [.data] true :=
  OpenClaim.laidByTextAt_later rfl rfl tie2 noOwnUnsafe
theorem macroblockAlone_row_tie : Rows.macroblockAloneRow.laidByTextAt .later Tryz.pinned [.data] true :=
  OpenClaim.laidByTextAt_later rfl rfl tie2 noOwnUnsafe
theorem macroblockSkips_row_tie : Rows.macroblockSkipsRow.laidByTextAt .later Tryz.pinned [.data] true :=
  OpenClaim.laidByTextAt_later rfl rfl tie2 noOwnUnsafe
theorem macroblockClose_row_tie : Rows.macroblockCloseRow.laidByTextAt .later Tryz.pinned [.data] true :=
  OpenClaim.laidByTextAt_later rfl rfl tie2 noOwnUnsafe
theorem pictureConceals_row_tie : Rows.pictureConcealsRow.laidByTextAt .later Tryz.pinned [.data] true :=
  OpenClaim.laidByTextAt_later rfl rfl tie2 noOwnUnsafe
theorem streamStructureUpto_row_tie : Rows.streamStructureUptoRow.laidByTextAt .later Tryz.pinned [.data, .data] true :=
  OpenClaim.laidByTextAt_later rfl rfl tie noOwnUnsafe
theorem macroblockReconstructsUpto_row_tie : Rows.macroblockReconstructsUptoRow.laidByTextAt .later Tryz.pinned [.data] true :=
  OpenClaim.laidByTextAt_later rfl rfl tie2 noOwnUnsafe
theorem macroblockAloneUpto_row_tie : Rows.macroblockAloneUptoRow.laidByTextAt .later Tryz.pinned [.data] true :=
  OpenClaim.laidByTextAt_later rfl rfl tie2 noOwnUnsafe
theorem macroblockSkipsUpto_row_tie : Rows.macroblockSkipsUptoRow.laidByTextAt .later Tryz.pinned [.data] true :=
  OpenClaim.laidByTextAt_later rfl rfl tie2 noOwnUnsafe
theorem macroblockCloseUpto_row_tie : Rows.macroblockCloseUptoRow.laidByTextAt .later Tryz.pinned [.data] true :=
  OpenClaim.laidByTextAt_later rfl rfl tie2 noOwnUnsafe
theorem pictureConcealsUpto_row_tie : Rows.pictureConcealsUptoRow.laidByTextAt .later Tryz.pinned [.data] true :=
  OpenClaim.laidByTextAt_later rfl rfl tie2 noOwnUnsafe
end Go.Proofs.YtahomnplappbpaaGreatDoor
