/-
  The package-level variables that are read: their numbers, and what they hold. No condition.
-/
import Derived.WalkKit
namespace Go.Proofs.YtahomnplappbpaaGreatDoor.Pm
set_option linter.all false
set_option linter.unusedVariables false
set_option linter.unusedSimpArgs false

def gAlt : List (IntKind × Int) := [0, 8, 16, 24, 1, 9, 2, 10, 17, 25, 32, 40, 48, 56, 57, 49, 41, 33, 26, 18, 3, 11, 4, 12, 19, 27, 34, 42, 50, 58, 35, 43, 51, 59, 20, 28, 5, 13, 6, 14, 21, 29, 36, 44, 52, 60, 37, 45, 53, 61, 22, 30, 7, 15, 23, 31, 38, 46, 54, 62, 39, 47, 55, 63].map fun n => (.i64, n)
def gIntra : List (IntKind × Int) := [8, 16, 19, 22, 26, 27, 29, 34, 16, 16, 22, 24, 27, 29, 34, 37, 19, 22, 26, 27, 29, 34, 34, 38, 22, 22, 26, 27, 29, 34, 37, 40, 22, 26, 27, 29, 32, 35, 40, 48, 26, 27, 29, 32, 35, 40, 48, 58, 26, 27, 29, 34, 38, 46, 56, 69, 27, 29, 35, 38, 46, 56, 69, 83].map fun n => (.u8, n)
def gtab (g : Nat) : Option (List (IntKind × Int)) :=
 if g = 1 then some gAlt else
 if g = 0 then some gIntra else
  none

end Go.Proofs.YtahomnplappbpaaGreatDoor.Pm
