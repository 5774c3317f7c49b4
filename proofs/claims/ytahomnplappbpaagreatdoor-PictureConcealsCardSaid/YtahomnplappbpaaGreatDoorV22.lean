/-
  Parts of the proof, put together in one text. No condition.
-/
import Derived.Test.YtahomnplappbpaaGreatDoorV21
namespace Go.Proofs.YtahomnplappbpaaGreatDoor.Sc
set_option linter.all false
set_option linter.unusedVariables false
set_option linter.unusedSimpArgs false
open Pm Ty Go.RowKit

/-- Two fields, and the frame of both. -/
structure Hok (V K : Nat) (f : Fm) : Prop where
  w : f.w = ((2 * V : Nat) : Int)
  h : f.h = ((2 * K : Nat) : Int)
  rv : 1 ≤ V ∧ V ≤ 32
  rk : 1 ≤ K ∧ K ≤ 16
  ly : f.y.length = 2 * K * (2 * V)
  lu : f.u.length = K * V
  lv : f.v.length = K * V
theorem Hok.fmd {V K : Nat} {f : Fm} (h : Hok V K f) : fmd f = true := by
  obtain ⟨w, ht, y, u, v⟩ := f
  obtain ⟨hw, hh, ⟨v1, v2⟩, ⟨k1, k2⟩, ly, lu, lv⟩ := h
  simp only at hw hh ly lu lv
  subst hw hh
  have e1 : ((2 * V : Nat) : Int) / 2 = (V : Int) := by omega
  have e2 : ((2 * K : Nat) : Int) / 2 = (K : Int) := by omega
  have a1 : fsz ((2 * V : Nat) : Int) ((2 * K : Nat) : Int) = true := by
    simp only [fsz, Bool.and_eq_true, decide_eq_true_eq]
    omega
  have a2 : ((2 * K * (2 * V) : Nat) : Int) = ((2 * V : Nat) : Int) * ((2 * K : Nat) : Int) := by rw [Nat.mul_comm]; exact Int.natCast_mul _ _
  have a3 : ((K * V : Nat) : Int) = (V : Int) * (K : Int) := by rw [Nat.mul_comm]; exact Int.natCast_mul _ _
  simp only [Sc.fmd, a1, e1, e2, ly, lu, lv, a2, a3, decide_true, Bool.and_self]

end Go.Proofs.YtahomnplappbpaaGreatDoor.Sc
