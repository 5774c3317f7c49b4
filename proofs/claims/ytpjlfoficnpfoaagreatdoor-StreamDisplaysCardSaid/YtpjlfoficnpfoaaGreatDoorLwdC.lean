/-
  What the row of StreamDisplays tells about the program, shown; the tie of the listed variables is the given one.
-/
import Derived.Test.YtpjlfoficnpfoaaGreatDoorS23
import Derived.Test.YtpjlfoficnpfoaaGreatDoorCards
import Derived.Test.YtpjlfoficnpfoaaGreatDoorTie
import Derived.SevenTiedAt
namespace Go.Proofs.YtpjlfoficnpfoaaGreatDoor.Lwd
set_option linter.all false
set_option linter.unusedVariables false
set_option linter.unusedSimpArgs false
open Go.ChangeShapes Go.WideShapes Go.ChangeAt Go.RowKit Pm

theorem j1 : (Rows.streamDisplaysRow.inPlace == Tryz.prog.inPlace 7) = true := by kernel_rfl
theorem j2 : (Rows.streamDisplaysRow.unfollowed == Tryz.prog.unfollowed 7) = true := by kernel_rfl
theorem j3 : (Rows.streamDisplaysRow.recurses == Tryz.prog.recurses 7) = true := by kernel_rfl
theorem j4 : (Rows.streamDisplaysRow.named == Tryz.prog.varsNamed 7) = true := by kernel_rfl
theorem j5 : laidOutB Tryz.prog = true := by kernel_rfl
theorem j6 : mapsRowed Tryz.prog = true := by kernel_rfl
theorem closed : joinedFacts Tryz.prog 7 Tryz.f7 Rows.streamDisplaysSpec Rows.streamDisplaysRow = true := by
  unfold joinedFacts
  rw [j1, j2, j3, j4, j5, j6]
  kernel_rfl

end Go.Proofs.YtpjlfoficnpfoaaGreatDoor.Lwd
