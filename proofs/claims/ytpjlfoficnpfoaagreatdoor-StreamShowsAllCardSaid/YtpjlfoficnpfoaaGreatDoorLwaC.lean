/-
  What the row of StreamShowsAll tells about the program, shown; the tie of the listed variables is the given one.
-/
import Derived.Test.YtpjlfoficnpfoaaGreatDoorS23
import Derived.Test.YtpjlfoficnpfoaaGreatDoorCards
import Derived.Test.YtpjlfoficnpfoaaGreatDoorTie
import Derived.SevenTiedAt
namespace Go.Proofs.YtpjlfoficnpfoaaGreatDoor.Lwa
set_option linter.all false
set_option linter.unusedVariables false
set_option linter.unusedSimpArgs false
open Go.ChangeShapes Go.WideShapes Go.ChangeAt Go.RowKit Pm

theorem j1 : (Rows.streamShowsAllRow.inPlace == Tryz.prog.inPlace 6) = true := by kernel_rfl
theorem j2 : (Rows.streamShowsAllRow.unfollowed == Tryz.prog.unfollowed 6) = true := by kernel_rfl
theorem j3 : (Rows.streamShowsAllRow.recurses == Tryz.prog.recurses 6) = true := by kernel_rfl
theorem j4 : (Rows.streamShowsAllRow.named == Tryz.prog.varsNamed 6) = true := by kernel_rfl
theorem j5 : laidOutB Tryz.prog = true := by kernel_rfl
theorem j6 : mapsRowed Tryz.prog = true := by kernel_rfl
theorem closed : joinedFacts Tryz.prog 6 Tryz.f6 Rows.streamShowsAllSpec Rows.streamShowsAllRow = true := by
  unfold joinedFacts
  rw [j1, j2, j3, j4, j5, j6]
  kernel_rfl

end Go.Proofs.YtpjlfoficnpfoaaGreatDoor.Lwa
