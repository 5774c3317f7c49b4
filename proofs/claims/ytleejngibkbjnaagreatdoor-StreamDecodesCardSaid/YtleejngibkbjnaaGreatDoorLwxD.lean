/-
  What the row of StreamDecodes tells about goroutines, shown; the tie of the listed variables is the given one.
-/
import Derived.Test.YtleejngibkbjnaaGreatDoorW03
import Derived.Test.YtleejngibkbjnaaGreatDoorCards
import Derived.Test.YtleejngibkbjnaaGreatDoorTie
import Derived.SevenTiedAt
namespace Go.Proofs.YtleejngibkbjnaaGreatDoor.Lwx
set_option linter.all false
set_option linter.unusedVariables false
set_option linter.unusedSimpArgs false
open Go.ChangeShapes Go.WideShapes Go.ChangeAt Go.RowKit Pm

theorem goes : false = Rows.streamDecodesRow.goesBy Tryz.pinned.checked.prog := by kernel_rfl

end Go.Proofs.YtleejngibkbjnaaGreatDoor.Lwx
