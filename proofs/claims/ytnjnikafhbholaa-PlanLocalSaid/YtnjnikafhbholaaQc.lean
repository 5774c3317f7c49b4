/-
  Contracts of chapter 31: the header of the films that the laws make.
-/
import Derived.Test.YtnjnikafhbholaaQb
import Derived.Test.YtnjnikafhbholaaPmP
namespace Go.Proofs.Ytnjnikafhbholaa.Sc
set_option linter.all false
set_option linter.unusedVariables false
set_option linter.unusedSimpArgs false
open Pm Ty Go.RowKit

def hdr : List PV := [.int .i64 16, .int .i64 16, .int .i64 25, .int .i64 1, .bool false, .int .i64 400000, .int .i64 100000] ++ List.replicate 128 (.int .u8 16)
theorem header_ok (H : Heap) : CallOk Try.prog 83 [] H (.agg hdr) H := CallOk.eval 100000 (by kernel_rfl) (fun x hx => by cases hx)

end Go.Proofs.Ytnjnikafhbholaa.Sc
