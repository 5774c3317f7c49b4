/-
  What the row of StreamBack tells about goroutines, shown; the tie of the listed variables is the given one.
-/
import Derived.Test.YtbhdollgohgkgaaDoorB04
import Derived.Test.YtbhdollgohgkgaaDoorCards
import Derived.Test.YtbhdollgohgkgaaDoorTie
import Derived.SevenTiedAt
namespace Go.Proofs.YtbhdollgohgkgaaDoor.Lsb
set_option linter.all false
set_option linter.unusedVariables false
set_option linter.unusedSimpArgs false
open Go.ChangeShapes Go.WideShapes Go.ChangeAt Go.RowKit Pm

theorem goes : false = Rows.streamBackRow.goesBy Tryd.pinned.checked.prog := by kernel_rfl

end Go.Proofs.YtbhdollgohgkgaaDoor.Lsb
