/-
  The sanity check of the laws of layer 10.
-/
import Derived.Test.YtnjnikafhbholaaTy
import Derived.Test.YtnjnikafhbholaaPmN
namespace Go.Proofs.Ytnjnikafhbholaa.Sc
set_option linter.all false
set_option linter.unusedVariables false
set_option linter.unusedSimpArgs false
open Pm Ty Go.RowKit

theorem awake10 (H : Heap) : CallOk Try.prog 55 [] H (.bool true) H := CallOk.anyT 100000 (by kernel_rfl)

end Go.Proofs.Ytnjnikafhbholaa.Sc
