/-
  What the closing texts of the laws of chapter 12 share: arguments as group headers.
-/
import Derived.Test.YtnnkohejhnjflaaGreatDoorLp
namespace Go.Proofs.YtnnkohejhnjflaaGreatDoor.Lg
set_option linter.all false
set_option linter.unusedVariables false
set_option linter.unusedSimpArgs false
open Go.ChangeShapes Go.WideShapes Go.ChangeAt Go.RowKit Pm Sc Lp

theorem shp_group {ps : List PV} (h : Shp Tryz.prog 28 ps) : ∃ (c b : Bool) (t : Int), ps = [.bool c, .bool b, .int .i64 t] ∧ (-9223372036854775808 ≤ t ∧ t ≤ 9223372036854775807) := by
  obtain ⟨pss, rfl, hf⟩ := h.fields Tryz.underlying28
  match pss, hf with
  | [a, b, c], ⟨ha, hb, hc, _⟩ =>
    obtain ⟨a, rfl⟩ := shp_bool ha
    obtain ⟨b, rfl⟩ := shp_bool hb
    obtain ⟨c, rfl, h3⟩ := shp_int hc
    exact ⟨a, b, c, rfl, h3⟩

end Go.Proofs.YtnnkohejhnjflaaGreatDoor.Lg
