/-
  A small program logic over abstract values: what is evaluated by simp in regions with footprints. No condition. Program-independent.
-/
import Derived.Test.YtahomnplappbpaaGreatDoorPmK
import Derived.Test.YtahomnplappbpaaGreatDoorPmJ
namespace Go.Proofs.YtahomnplappbpaaGreatDoor.Pm
set_option linter.all false
set_option linter.unusedVariables false
set_option linter.unusedSimpArgs false
open Go.RowKit

attribute [go_sem] VOi_nil VOi_step VRi VCi stpI chkI popI resI grows pnew pnew0 kindI fstO fstP nilApp okO inO isMsl posOf posO opPos atP fpOf dis Call.operands List.filterMap_cons_some List.filterMap_nil List.filterMap_cons Array.toList_append

end Go.Proofs.YtahomnplappbpaaGreatDoor.Pm
