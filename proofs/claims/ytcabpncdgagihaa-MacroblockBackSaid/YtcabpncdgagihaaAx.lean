/-
  The sanity check of the laws of layer 10.
-/
import Derived.Test.YtcabpncdgagihaaTy
import Derived.Test.YtcabpncdgagihaaPmN
namespace Go.Proofs.Ytcabpncdgagihaa.Sc
set_option linter.all false
set_option linter.unusedVariables false
set_option linter.unusedSimpArgs false
open Pm Ty Go.RowKit

theorem awake10 (H : Heap) : CallOk Try.prog 12 [] H (.bool true) H := CallOk.anyT 100000 (by kernel_rfl)

end Go.Proofs.Ytcabpncdgagihaa.Sc
