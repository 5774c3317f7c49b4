/-
  Parts of the proof. No condition.
-/
import Derived.Test.YtdajpjenhcobkaaGreatDoorX19
import Derived.Test.YtdajpjenhcobkaaGreatDoorX26
set_option linter.all false
set_option maxRecDepth 100000
set_option maxHeartbeats 32000000
namespace Go.Proofs.YtdajpjenhcobkaaGreatDoor.Sc
open Pm Ty Go.RowKit
end Go.Proofs.YtdajpjenhcobkaaGreatDoor.Sc
