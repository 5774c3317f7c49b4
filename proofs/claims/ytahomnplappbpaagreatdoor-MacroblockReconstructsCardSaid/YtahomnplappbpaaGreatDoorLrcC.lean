/-
  What the row of MacroblockReconstructs tells about the program, shown; the tie of the listed variables is the given one.
-/
import Derived.Test.YtahomnplappbpaaGreatDoorW44
import Derived.Test.YtahomnplappbpaaGreatDoorCards
import Derived.Test.YtahomnplappbpaaGreatDoorTie
import Derived.SevenTiedAt
namespace Go.Proofs.YtahomnplappbpaaGreatDoor.Lrc
set_option linter.all false
set_option linter.unusedVariables false
set_option linter.unusedSimpArgs false
open Go.ChangeShapes Go.WideShapes Go.ChangeAt Go.RowKit Pm

theorem j1 : (Rows.macroblockReconstructsRow.inPlace == Tryz.prog.inPlace 4) = true := by kernel_rfl
theorem j2 : (Rows.macroblockReconstructsRow.unfollowed == Tryz.prog.unfollowed 4) = true := by kernel_rfl
theorem j3 : (Rows.macroblockReconstructsRow.recurses == Tryz.prog.recurses 4) = true := by kernel_rfl
theorem j4 : (Rows.macroblockReconstructsRow.named == Tryz.prog.varsNamed 4) = true := by kernel_rfl
theorem j5 : laidOutB Tryz.prog = true := by kernel_rfl
theorem j6 : mapsRowed Tryz.prog = true := by kernel_rfl
theorem closed : joinedFacts Tryz.prog 4 Tryz.f4 Rows.macroblockReconstructsSpec Rows.macroblockReconstructsRow = true := by
  unfold joinedFacts
  rw [j1, j2, j3, j4, j5, j6]
  kernel_rfl

end Go.Proofs.YtahomnplappbpaaGreatDoor.Lrc
