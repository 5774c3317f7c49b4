/-
  Contracts of chapter 10: macroblocks, which blocks are coded.
-/
import Derived.Test.YtcabpncdgagihaaGb
namespace Go.Proofs.Ytcabpncdgagihaa.Sc
set_option linter.all false
set_option linter.unusedVariables false
set_option linter.unusedSimpArgs false
open Pm Ty Go.RowKit

def cdl (m : Mb) : List Bool := [m.ca, m.cb, m.cc, m.cd, m.ce, m.cf]
end Go.Proofs.Ytcabpncdgagihaa.Sc
