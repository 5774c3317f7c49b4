/-
  Parts of the proof. No condition.
-/
import Derived.Test.YtleejngibkbjnaaGreatDoorW04
set_option linter.all false
set_option maxRecDepth 100000
set_option maxHeartbeats 32000000
namespace Go.Proofs.YtleejngibkbjnaaGreatDoor.Sc
open Pm Ty Go.RowKit
def tw(H:za)(i j:Nat)(A B:Blk):za:=(H.set i A).set j B
theorem zrd(H:za)(i j:Nat)(A B:Blk)(h:i<H.length/\i≠j):(tw H i j A B)[i]? =some A:=by unfold tw;rw[gR om];simp[h.1]
theorem zxH(H:za)(i j:Nat)(A B:Blk)(h:j<H.length):(tw H i j A B)[j]? =some B:=by unfold tw;simp[h]
theorem zrc(H:za)(i j:Nat)(A B:Blk):(tw H i j A B).length=H.length:=by simp[tw]
theorem zra(H:za)(i j:Nat)(A B C D:Blk)(h:i≠j):tw (tw H i j A B) i j C D=tw H i j C D:=by unfold tw;rw[dQ _ _ (by omega:i≠j),vL,dQ _ _ (by omega:j≠i),vL]
theorem zdx{H:za}{i:Nat}{A:Blk}(h:H[i]? =some A):H.set i A=H:=by
 apply dG;intro j;rw[vG];split
 .rename_i e;subst e;split
  .exact h.symm
  .rename_i hn;exact absurd (gA.1 h).1 hn
 .rfl
theorem zrb{H:za}{i j:Nat}{A B:Blk}(hA:∀ x∈A.cells,Scoped H.length x)(hB:∀ x∈B.cells,Scoped H.length x)(h:HSc H):HSc (tw H i j A B):=HSc.set (HSc.set h hA) (by rw[gS];exact hB)
end Go.Proofs.YtleejngibkbjnaaGreatDoor.Sc
