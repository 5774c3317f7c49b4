/-
  Parts of the proof, put together in one text. No condition.
-/
import Derived.Test.YtahomnplappbpaaGreatDoorV22
import Derived.Test.YtahomnplappbpaaGreatDoorV23
namespace Go.Proofs.YtahomnplappbpaaGreatDoor.Sc
set_option linter.all false
set_option linter.unusedVariables false
set_option linter.unusedSimpArgs false
open Pm Ty Go.RowKit

theorem F16.c {f : Fm} (h : F16 f) : fmc f = [.int .i64 16, .int .i64 16, .slice (bs f.y) 256 false, .slice (bs f.u) 64 false, .slice (bs f.v) 64 false] := by
  unfold fmc; rw [h.w, h.h, h.ly, h.lu, h.lv]

theorem bldSt (b : Bool) : pbuild Tryz.prog 50 [(0, .int .i64 2), (1, .agg [.bool true, .bool b])] = some (.agg (mbc ⟨2, true, b, false, false, 0, 0, 0, 0, 0, 0, 0, 0, 0, 0, 0, 0, 0, false, false, false, false, false, false, zl384⟩)) := by cases b <;> kernel_rfl
attribute [go_sem high] bldSt
end Go.Proofs.YtahomnplappbpaaGreatDoor.Sc
