/-
  Parts of the proof. No condition.
-/
import Derived.Test.YtdajpjenhcobkaaGreatDoorX29
import Derived.Test.YtdajpjenhcobkaaGreatDoorX30
set_option linter.all false
set_option maxRecDepth 100000
set_option maxHeartbeats 32000000
namespace Go.Proofs.YtdajpjenhcobkaaGreatDoor.Sc
open Pm Ty Go.RowKit
def zc8:List PV:=[.int .i64 0,.int .i64 0,.int .i64 0,.bool false,.bool false,.bool false,.slice [] 0 true,.slice [] 0 true]
def zkH(f:Fm)(w h:Int):Bool:=fmd f&&(decide (f.w=w)&&decide (f.h=h))
theorem zfN(f:Fm)(w h:Int)(H:za):CallOk Tryz.prog 95 [.agg (fmc f),.int .i64 w,.int .i64 h] H (.bool (zkH f w h)) H:=by have fo:=λK=>za1 f K;unfold zkH;generalize fmd f=b at fo |-;obtain⟨fw,fh,y,u,v⟩:=f;simp only[fmc]at fo |-;refine .body (F0:=[(0,.agg [.int .i64 fw,.int .i64 fh,.slice (bs y) y.length false,.slice (bs u) u.length false,.slice (bs v) v.length false]),(1,.int .i64 w),(2,.int .i64 h)]) Tryz.func95 rfl Tryz.ntmps95 Tryz.results95 rfl kr rfl ?_;refine .e ?_;(repeat refine .seq ?_);refine .rg rfl λK hK=> ?_;simp(disch:=omega) only[go_sem];(repeat'(first|((refine zg ?_ ?_)<;>intro h<;>(try simp only[nqb]at h)<;>simp(disch:=omega) only[go_sem,h])|((refine VCx.call (fo _) rfl ?_);simp(disch:=omega) only[go_sem])));all_goals(refine hK _ _ ?_;clear hK;(refine .ret ⟨_,rfl,?_⟩;refine .base (.id' ?_ (.bool _)));(simp_all[slot,Nat.beq]<;>rfl))
end Go.Proofs.YtdajpjenhcobkaaGreatDoor.Sc
