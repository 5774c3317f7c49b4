/-
  Contracts of chapter 10: macroblocks, the directions of prediction, the reference's.
-/
import Derived.Test.YtcabpncdgagihaaGd
namespace Go.Proofs.Ytcabpncdgagihaa.Sc
set_option linter.all false
set_option linter.unusedVariables false
set_option linter.unusedSimpArgs false
open Pm Ty Go.RowKit

end Go.Proofs.Ytcabpncdgagihaa.Sc
