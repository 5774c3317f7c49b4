/-
  What the row of StreamWell tells about goroutines, shown; the tie of the listed variables is the given one.
-/
import Derived.Test.YtpjlfoficnpfoaaGreatDoorV23
import Derived.Test.YtpjlfoficnpfoaaGreatDoorCards
import Derived.Test.YtpjlfoficnpfoaaGreatDoorTie
import Derived.SevenTiedAt
namespace Go.Proofs.YtpjlfoficnpfoaaGreatDoor.Lww
set_option linter.all false
set_option linter.unusedVariables false
set_option linter.unusedSimpArgs false
open Go.ChangeShapes Go.WideShapes Go.ChangeAt Go.RowKit Pm

theorem goes : false = Rows.streamWellRow.goesBy Tryz.pinned.checked.prog := by kernel_rfl

end Go.Proofs.YtpjlfoficnpfoaaGreatDoor.Lww
