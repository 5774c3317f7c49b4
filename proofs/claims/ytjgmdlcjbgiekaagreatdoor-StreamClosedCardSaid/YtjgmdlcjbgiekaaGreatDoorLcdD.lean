/-
  What the row of StreamClosed tells about goroutines, shown; the tie of the listed variables is the given one.
-/
import Derived.Test.YtjgmdlcjbgiekaaGreatDoorQ49
import Derived.Test.YtjgmdlcjbgiekaaGreatDoorCards
import Derived.Test.YtjgmdlcjbgiekaaGreatDoorTie
import Derived.SevenTiedAt
namespace Go.Proofs.YtjgmdlcjbgiekaaGreatDoor.Lcd
set_option linter.all false
set_option linter.unusedVariables false
set_option linter.unusedSimpArgs false
open Go.ChangeShapes Go.WideShapes Go.ChangeAt Go.RowKit Pm

theorem goes : false = Rows.streamClosedRow.goesBy Tryz.pinned.checked.prog := by kernel_rfl

end Go.Proofs.YtjgmdlcjbgiekaaGreatDoor.Lcd
