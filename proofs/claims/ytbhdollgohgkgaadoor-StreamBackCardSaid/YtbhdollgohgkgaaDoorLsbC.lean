/-
  What the row of StreamBack tells about the program, shown; the tie of the listed variables is the given one.
-/
import Derived.Test.YtbhdollgohgkgaaDoorB04
import Derived.Test.YtbhdollgohgkgaaDoorCards
import Derived.Test.YtbhdollgohgkgaaDoorTie
import Derived.SevenTiedAt
namespace Go.Proofs.YtbhdollgohgkgaaDoor.Lsb
set_option linter.all false
set_option linter.unusedVariables false
set_option linter.unusedSimpArgs false
open Go.ChangeShapes Go.WideShapes Go.ChangeAt Go.RowKit Pm

theorem j1 : (Rows.streamBackRow.inPlace == Tryd.prog.inPlace 3) = true := by kernel_rfl
theorem j2 : (Rows.streamBackRow.unfollowed == Tryd.prog.unfollowed 3) = true := by kernel_rfl
theorem j3 : (Rows.streamBackRow.recurses == Tryd.prog.recurses 3) = true := by kernel_rfl
theorem j4 : (Rows.streamBackRow.named == Tryd.prog.varsNamed 3) = true := by kernel_rfl
theorem j5 : laidOutB Tryd.prog = true := by kernel_rfl
theorem j6 : mapsRowed Tryd.prog = true := by kernel_rfl
theorem closed : joinedFacts Tryd.prog 3 Tryd.f3 Rows.streamBackSpec Rows.streamBackRow = true := by
  unfold joinedFacts
  rw [j1, j2, j3, j4, j5, j6]
  kernel_rfl

end Go.Proofs.YtbhdollgohgkgaaDoor.Lsb
