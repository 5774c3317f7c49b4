/-
  Contracts of chapter 10: macroblocks, the prediction of an Inter macroblock.
-/
import Derived.Test.YtcabpncdgagihaaGe
namespace Go.Proofs.Ytcabpncdgagihaa.Sc
set_option linter.all false
set_option linter.unusedVariables false
set_option linter.unusedSimpArgs false
open Pm Ty Go.RowKit

end Go.Proofs.Ytcabpncdgagihaa.Sc
