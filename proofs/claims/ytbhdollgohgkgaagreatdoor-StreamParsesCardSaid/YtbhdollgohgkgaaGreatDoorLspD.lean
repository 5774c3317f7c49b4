/-
  What the row of StreamParses tells about goroutines, shown; the tie of the listed variables is the given one.
-/
import Derived.Test.YtbhdollgohgkgaaGreatDoorA04
import Derived.Test.YtbhdollgohgkgaaGreatDoorCards
import Derived.Test.YtbhdollgohgkgaaGreatDoorTie
import Derived.SevenTiedAt
namespace Go.Proofs.YtbhdollgohgkgaaGreatDoor.Lsp
set_option linter.all false
set_option linter.unusedVariables false
set_option linter.unusedSimpArgs false
open Go.ChangeShapes Go.WideShapes Go.ChangeAt Go.RowKit Pm

theorem goes : false = Rows.streamParsesRow.goesBy Tryz.pinned.checked.prog := by kernel_rfl

end Go.Proofs.YtbhdollgohgkgaaGreatDoor.Lsp
