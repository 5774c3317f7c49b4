/-
  What the row of StreamDecodes tells about the program, shown; the tie of the listed variables is the given one.
-/
import Derived.Test.YtleejngibkbjnaaGreatDoorW03
import Derived.Test.YtleejngibkbjnaaGreatDoorCards
import Derived.Test.YtleejngibkbjnaaGreatDoorTie
import Derived.SevenTiedAt
namespace Go.Proofs.YtleejngibkbjnaaGreatDoor.Lwx
set_option linter.all false
set_option linter.unusedVariables false
set_option linter.unusedSimpArgs false
open Go.ChangeShapes Go.WideShapes Go.ChangeAt Go.RowKit Pm

theorem j1 : (Rows.streamDecodesRow.inPlace == Tryz.prog.inPlace 3) = true := by kernel_rfl
theorem j2 : (Rows.streamDecodesRow.unfollowed == Tryz.prog.unfollowed 3) = true := by kernel_rfl
theorem j3 : (Rows.streamDecodesRow.recurses == Tryz.prog.recurses 3) = true := by kernel_rfl
theorem j4 : (Rows.streamDecodesRow.named == Tryz.prog.varsNamed 3) = true := by kernel_rfl
theorem j5 : laidOutB Tryz.prog = true := by kernel_rfl
theorem j6 : mapsRowed Tryz.prog = true := by kernel_rfl
theorem zyZ : joinedFacts Tryz.prog 3 Tryz.f3 Rows.streamDecodesSpec Rows.streamDecodesRow = true := by
  unfold joinedFacts
  rw [j1, j2, j3, j4, j5, j6]
  kernel_rfl

end Go.Proofs.YtleejngibkbjnaaGreatDoor.Lwx
