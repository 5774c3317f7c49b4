/-
  Contracts of package bitio and of the reference of chapter 2: Payload, Bits.
-/
import Derived.Test.YtcabpncdgagihaaBw
namespace Go.Proofs.Ytcabpncdgagihaa.Sc
set_option linter.all false
set_option linter.unusedVariables false
set_option linter.unusedSimpArgs false
open Pm Ty Go.RowKit

end Go.Proofs.Ytcabpncdgagihaa.Sc
