/-
  Parts of the proof. No condition.
-/
import Derived.Test.YtdajpjenhcobkaaGreatDoorX05
set_option linter.all false
set_option maxRecDepth 100000
set_option maxHeartbeats 32000000
namespace Go.Proofs.YtdajpjenhcobkaaGreatDoor.Sc
open Pm Ty Go.RowKit
structure SqL(s:Sq):Prop where
 ia:s.ia.length=64
 ie:s.ie.length=64
def sqA(s t:Sq):Bool:=(s.w==t.w)&&((s.h==t.h)&&(((s.num==t.num)&&((s.den==t.den)&&true))&&((s.il==t.il)&&((s.br==t.br)&&((s.bf==t.bf)&&true)))))
def sqE(s t:Sq):Bool:=sqA s t&&((s.ia==t.ia)&&((s.ie==t.ie)&&true))
end Go.Proofs.YtdajpjenhcobkaaGreatDoor.Sc
