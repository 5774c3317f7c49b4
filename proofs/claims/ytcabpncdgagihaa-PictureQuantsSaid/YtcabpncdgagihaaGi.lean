/-
  Contracts of chapter 10: which macroblocks are formed, the code's function.
-/
import Derived.Test.YtcabpncdgagihaaGh
namespace Go.Proofs.Ytcabpncdgagihaa.Sc
set_option linter.all false
set_option linter.unusedVariables false
set_option linter.unusedSimpArgs false
open Pm Ty Go.RowKit

end Go.Proofs.Ytcabpncdgagihaa.Sc
