/-
  Parts of the proof, put together in one text. No condition.
-/
import Derived.Test.YtahomnplappbpaaGreatDoorV27
import Derived.Test.YtahomnplappbpaaGreatDoorV25
import Derived.Test.YtahomnplappbpaaGreatDoorV21
namespace Go.Proofs.YtahomnplappbpaaGreatDoor.Sc
set_option linter.all false
set_option linter.unusedVariables false
set_option linter.unusedSimpArgs false
open Pm Ty Go.RowKit

theorem fieldR (f : Fm) (s : Int) (hf : fvd f = true) (h32 : f.h % 32 = 0) (hs : s = 0 ∨ s = 1) (L : Heap) : CallOk Tryz.prog 25 [.agg (fmc f), .int .i64 s] L (.tup [.agg (fmc (fieldOf f s)), .int .i64 0]) L := by
  obtain ⟨w, ht, y, u, v⟩ := f
  obtain ⟨V, K, rfl, rfl, hok⟩ := fvd_fr4 hf h32
  obtain ⟨P, hP, rfl⟩ : ∃ P : Nat, P ≤ 1 ∧ s = (P : Int) := by
    rcases hs with e | e
    · exact ⟨0, by omega, by omega⟩
    · exact ⟨1, by omega, by omega⟩
  have e1 := fieldOf_fr4 V K P y u v
  have e2 := field_ref V K P y u v L hok hP
  unfold fr4 at e1 e2
  rw [e1]; exact e2

end Go.Proofs.YtahomnplappbpaaGreatDoor.Sc
