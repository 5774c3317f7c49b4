/-
  What the row of StreamClosed tells about the program, shown; the tie of the listed variables is the given one.
-/
import Derived.Test.YtjgmdlcjbgiekaaGreatDoorQ49
import Derived.Test.YtjgmdlcjbgiekaaGreatDoorCards
import Derived.Test.YtjgmdlcjbgiekaaGreatDoorTie
import Derived.SevenTiedAt
namespace Go.Proofs.YtjgmdlcjbgiekaaGreatDoor.Lcd
set_option linter.all false
set_option linter.unusedVariables false
set_option linter.unusedSimpArgs false
open Go.ChangeShapes Go.WideShapes Go.ChangeAt Go.RowKit Pm

theorem j1 : (Rows.streamClosedRow.inPlace == Tryz.prog.inPlace 6) = true := by kernel_rfl
theorem j2 : (Rows.streamClosedRow.unfollowed == Tryz.prog.unfollowed 6) = true := by kernel_rfl
theorem j3 : (Rows.streamClosedRow.recurses == Tryz.prog.recurses 6) = true := by kernel_rfl
theorem j4 : (Rows.streamClosedRow.named == Tryz.prog.varsNamed 6) = true := by kernel_rfl
theorem j5 : laidOutB Tryz.prog = true := by kernel_rfl
theorem j6 : mapsRowed Tryz.prog = true := by kernel_rfl
theorem zu1 : joinedFacts Tryz.prog 6 Tryz.f6 Rows.streamClosedSpec Rows.streamClosedRow = true := by
  unfold joinedFacts
  rw [j1, j2, j3, j4, j5, j6]
  kernel_rfl

end Go.Proofs.YtjgmdlcjbgiekaaGreatDoor.Lcd
