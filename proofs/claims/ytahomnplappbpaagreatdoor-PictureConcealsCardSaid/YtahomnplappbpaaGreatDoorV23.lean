/-
  Parts of the proof, put together in one text. No condition.
-/
import Derived.Test.YtahomnplappbpaaGreatDoorV21
namespace Go.Proofs.YtahomnplappbpaaGreatDoor.Sc
set_option linter.all false
set_option linter.unusedVariables false
set_option linter.unusedSimpArgs false
open Pm Ty Go.RowKit

end Go.Proofs.YtahomnplappbpaaGreatDoor.Sc

namespace Go.Proofs.YtahomnplappbpaaGreatDoor.Sc
set_option linter.all false
set_option linter.unusedVariables false
set_option linter.unusedSimpArgs false
open Pm Ty Go.RowKit

/-- A state: the quantiser, three DC values, two vectors. -/
structure St where
  q : Int
  da : Int
  db : Int
  dc : Int
  va : Int
  vb : Int
  vc : Int
  vd : Int
end Go.Proofs.YtahomnplappbpaaGreatDoor.Sc

namespace Go.Proofs.YtahomnplappbpaaGreatDoor.Sc
set_option linter.all false
set_option linter.unusedVariables false
set_option linter.unusedSimpArgs false
open Pm Ty Go.RowKit

end Go.Proofs.YtahomnplappbpaaGreatDoor.Sc

namespace Go.Proofs.YtahomnplappbpaaGreatDoor.Sc
set_option linter.all false
set_option linter.unusedVariables false
set_option linter.unusedSimpArgs false
open Pm Ty Go.RowKit

/-! ### skipped macroblocks -/
/-- The frame's sizes as numbers. -/
theorem fvd_nat {f : Fm} (h : fvd f = true) : ∃ A B : Nat, 1 ≤ A ∧ A ≤ 4 ∧ 1 ≤ B ∧ B ≤ 4 ∧ f.w = ((16 * A : Nat) : Int) ∧ f.h = ((16 * B : Nat) : Int) ∧ f.y.length = 16 * A * (16 * B) ∧ f.u.length = 8 * A * (8 * B) ∧ f.v.length = 8 * A * (8 * B) := by
  obtain ⟨w, ht, y, u, v⟩ := f
  simp only [fvd, fmd, Bool.and_eq_true, decide_eq_true_eq] at h
  obtain ⟨⟨hs, hy, hu, hv⟩, hw, hh⟩ := h
  obtain ⟨g1, g2, g3, g4, g5, g6⟩ := fsz_of hs
  obtain ⟨A, hA⟩ : ∃ A : Nat, (w / 16).toNat = A := ⟨_, rfl⟩
  obtain ⟨B, hB⟩ : ∃ B : Nat, (ht / 16).toNat = B := ⟨_, rfl⟩
  have e1 : w = ((16 * A : Nat) : Int) := by omega
  have e2 : ht = ((16 * B : Nat) : Int) := by omega
  have e3 : w / 2 = ((8 * A : Nat) : Int) := by omega
  have e4 : ht / 2 = ((8 * B : Nat) : Int) := by omega
  rw [e3, e4] at hu hv
  rw [e1, e2] at hy
  refine ⟨A, B, by omega, by omega, by omega, by omega, e1, e2, ?_, ?_, ?_⟩
  · exact Int.ofNat_inj.1 (hy.trans (Int.natCast_mul _ _).symm)
  · exact Int.ofNat_inj.1 (hu.trans (Int.natCast_mul _ _).symm)
  · exact Int.ofNat_inj.1 (hv.trans (Int.natCast_mul _ _).symm)
/-! ### the distance of frames -/
theorem F16.fmd {f : Fm} (h : F16 f) : fmd f = true := by
  have := h.fvd
  unfold Sc.fvd at this
  rw [Bool.and_eq_true] at this
  exact this.1
end Go.Proofs.YtahomnplappbpaaGreatDoor.Sc
