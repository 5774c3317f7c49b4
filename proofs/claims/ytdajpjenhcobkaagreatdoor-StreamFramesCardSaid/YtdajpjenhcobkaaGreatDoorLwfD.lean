/-
  What the row of StreamFrames tells about goroutines, shown; the tie of the listed variables is the given one.
-/
import Derived.Test.YtdajpjenhcobkaaGreatDoorX03
import Derived.Test.YtdajpjenhcobkaaGreatDoorCards
import Derived.Test.YtdajpjenhcobkaaGreatDoorTie
import Derived.SevenTiedAt
namespace Go.Proofs.YtdajpjenhcobkaaGreatDoor.Lwf
set_option linter.all false
set_option linter.unusedVariables false
set_option linter.unusedSimpArgs false
open Go.ChangeShapes Go.WideShapes Go.ChangeAt Go.RowKit Pm

theorem goes : false = Rows.streamFramesRow.goesBy Tryz.pinned.checked.prog := by kernel_rfl

end Go.Proofs.YtdajpjenhcobkaaGreatDoor.Lwf
