/-
  What the row of PictureConceals tells about the program, shown; the tie of the listed variables is the given one.
-/
import Derived.Test.YtahomnplappbpaaGreatDoorV29
import Derived.Test.YtahomnplappbpaaGreatDoorCards
import Derived.Test.YtahomnplappbpaaGreatDoorTie
import Derived.SevenTiedAt
namespace Go.Proofs.YtahomnplappbpaaGreatDoor.Lcn
set_option linter.all false
set_option linter.unusedVariables false
set_option linter.unusedSimpArgs false
open Go.ChangeShapes Go.WideShapes Go.ChangeAt Go.RowKit Pm

theorem j1 : (Rows.pictureConcealsRow.inPlace == Tryz.prog.inPlace 8) = true := by kernel_rfl
theorem j2 : (Rows.pictureConcealsRow.unfollowed == Tryz.prog.unfollowed 8) = true := by kernel_rfl
theorem j3 : (Rows.pictureConcealsRow.recurses == Tryz.prog.recurses 8) = true := by kernel_rfl
theorem j4 : (Rows.pictureConcealsRow.named == Tryz.prog.varsNamed 8) = true := by kernel_rfl
theorem j5 : laidOutB Tryz.prog = true := by kernel_rfl
theorem j6 : mapsRowed Tryz.prog = true := by kernel_rfl
theorem closed : joinedFacts Tryz.prog 8 Tryz.f8 Rows.pictureConcealsSpec Rows.pictureConcealsRow = true := by
  unfold joinedFacts
  rw [j1, j2, j3, j4, j5, j6]
  kernel_rfl

end Go.Proofs.YtahomnplappbpaaGreatDoor.Lcn
