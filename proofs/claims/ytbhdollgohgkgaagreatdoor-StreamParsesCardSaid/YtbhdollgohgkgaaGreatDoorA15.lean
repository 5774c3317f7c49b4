/-
  Parts of the proof. No condition.
-/
import Derived.Test.YtbhdollgohgkgaaGreatDoorA07
import Derived.Test.YtbhdollgohgkgaaGreatDoorA05
import Derived.Test.YtbhdollgohgkgaaGreatDoorA14
namespace Go.Proofs.YtbhdollgohgkgaaGreatDoor.Sc
set_option linter.all false
set_option linter.unusedVariables false
set_option linter.unusedSimpArgs false
open Pm Ty Go.RowKit

/-- The order of the elements of a block. -/
def scn : List Nat := [0, 1, 8, 16, 9, 2, 3, 10, 17, 24, 32, 25, 18, 11, 4, 5, 12, 19, 26, 33, 40, 48, 41, 34, 27, 20, 13, 6, 7, 14, 21, 28, 35, 42, 49, 56, 57, 50, 43, 36, 29, 22, 15, 23, 30, 37, 44, 51, 58, 59, 52, 45, 38, 31, 39, 46, 53, 60, 61, 54, 47, 55, 62, 63]
def scV : List PV := scn.map fun n : Nat => PV.int .i64 (n : Int)
def dIn : List UInt8 := [8, 16, 19, 22, 26, 27, 29, 34, 16, 16, 22, 24, 27, 29, 34, 37, 19, 22, 26, 27, 29, 34, 34, 38, 22, 22, 26, 27, 29, 34, 37, 40, 22, 26, 27, 29, 32, 35, 40, 48, 26, 27, 29, 32, 35, 40, 48, 58, 26, 27, 29, 34, 38, 46, 56, 69, 27, 29, 35, 38, 46, 56, 69, 83]
def dIt : List UInt8 := List.replicate 64 16
theorem no_args : ∀ x ∈ ([] : List PV), Scoped 0 x := fun x hx => by cases hx
theorem one_bool (b : Bool) : ∀ x ∈ [PV.bool b], Scoped 0 x := fun x hx => by
  rw [List.mem_singleton] at hx
  rw [hx]; exact .bool _
theorem din_ok (H : Heap) : CallOk Tryz.prog 75 [] H (.agg (bs dIn)) H := CallOk.evalV 1000 (by kernel_rfl) no_args
theorem dit_ok (H : Heap) : CallOk Tryz.prog 76 [] H (.agg (bs dIt)) H := CallOk.evalV 100000 (by kernel_rfl) no_args
theorem din_ref (H : Heap) : CallOk Tryz.prog 58 [] H (.agg (bs dIn)) H := CallOk.evalV 1000 (by kernel_rfl) no_args
theorem dit_ref (H : Heap) : CallOk Tryz.prog 59 [] H (.agg (bs dIt)) H := CallOk.evalV 100000 (by kernel_rfl) no_args
theorem scan_ref (H : Heap) : CallOk Tryz.prog 88 [.bool false] H (.agg scV) H := CallOk.evalV 1000000 (by kernel_rfl) (one_bool _)
theorem scan_ok (H : Heap) : CallOk Tryz.prog 101 [.bool false] H (.agg scV) H := CallOk.evalV 1000000 (by kernel_rfl) (one_bool _)
theorem awake12 (H : Heap) : CallOk Tryz.prog 6 [] H (.bool true) H := CallOk.evalT 1000000 (by kernel_rfl)

end Go.Proofs.YtbhdollgohgkgaaGreatDoor.Sc
