/-
  What the row of StreamParses tells about the program, shown; the tie of the listed variables is the given one.
-/
import Derived.Test.YtbhdollgohgkgaaGreatDoorA04
import Derived.Test.YtbhdollgohgkgaaGreatDoorCards
import Derived.Test.YtbhdollgohgkgaaGreatDoorTie
import Derived.SevenTiedAt
namespace Go.Proofs.YtbhdollgohgkgaaGreatDoor.Lsp
set_option linter.all false
set_option linter.unusedVariables false
set_option linter.unusedSimpArgs false
open Go.ChangeShapes Go.WideShapes Go.ChangeAt Go.RowKit Pm

theorem j1 : (Rows.streamParsesRow.inPlace == Tryz.prog.inPlace 3) = true := by kernel_rfl
theorem j2 : (Rows.streamParsesRow.unfollowed == Tryz.prog.unfollowed 3) = true := by kernel_rfl
theorem j3 : (Rows.streamParsesRow.recurses == Tryz.prog.recurses 3) = true := by kernel_rfl
theorem j4 : (Rows.streamParsesRow.named == Tryz.prog.varsNamed 3) = true := by kernel_rfl
theorem j5 : laidOutB Tryz.prog = true := by kernel_rfl
theorem j6 : mapsRowed Tryz.prog = true := by kernel_rfl
theorem closed : joinedFacts Tryz.prog 3 Tryz.f3 Rows.streamParsesSpec Rows.streamParsesRow = true := by
  unfold joinedFacts
  rw [j1, j2, j3, j4, j5, j6]
  kernel_rfl

end Go.Proofs.YtbhdollgohgkgaaGreatDoor.Lsp
