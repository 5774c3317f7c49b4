/-
  What the closing texts of the laws of chapter 12 share: arguments as group headers.
-/
import Derived.Test.YtahomnplappbpaaGreatDoorLp
import Derived.Test.YtahomnplappbpaaGreatDoorVa
namespace Go.Proofs.YtahomnplappbpaaGreatDoor.Lg
set_option linter.all false
set_option linter.unusedVariables false
set_option linter.unusedSimpArgs false
open Go.ChangeShapes Go.WideShapes Go.ChangeAt Go.RowKit Pm Sc Lp

theorem shp_group {ps : List PV} (h : Shp Tryz.prog 85 ps) : ∃ (c b : Bool) (t : Int), ps = [.bool c, .bool b, .int .i64 t] ∧ (-9223372036854775808 ≤ t ∧ t ≤ 9223372036854775807) := by
  obtain ⟨pss, rfl, hf⟩ := h.fields Tryz.underlying85
  match pss, hf with
  | [a, b, c], ⟨ha, hb, hc, _⟩ =>
    obtain ⟨a, rfl⟩ := shp_bool ha
    obtain ⟨b, rfl⟩ := shp_bool hb
    obtain ⟨c, rfl, h3⟩ := shp_int hc
    exact ⟨a, b, c, rfl, h3⟩
theorem shp_coded {ps : List PV} (h : Shp Tryz.prog 75 ps) : ∃ (p : Pi) (U : List (List UInt8)) (us : List (Int × List UInt8)), ps = cdc p U us ∧ U.length ≤ maxLen ∧ us.length ≤ maxLen ∧ ∀ u ∈ us, i64r u.1 := by
  obtain ⟨pss, rfl, hf⟩ := h.fields Tryz.underlying75
  match pss, hf with
  | [p, u, l], ⟨hp, hu, hl, _⟩ =>
    obtain ⟨p, rfl, _⟩ := shp_pic hp
    obtain ⟨U, rfl, hU, _⟩ := hu.of_list (enc := usr1) (good := fun _ => True) Tryz.underlying72 (fun q hq => by
      obtain ⟨x, rfl⟩ := shp_bytes hq
      exact ⟨x, rfl, trivial⟩)
    obtain ⟨us, rfl, hm, hg⟩ := hl.of_list (enc := uq1) (good := fun u => i64r u.1) Tryz.underlying73 (fun q hq => by
      obtain ⟨t, x, rfl, ht⟩ := shp_unit hq
      exact ⟨(t, x), rfl, ht⟩)
    exact ⟨p, U, us, rfl, hU, hm, hg⟩
theorem shp_item {ps : List PV} (h : Shp Tryz.prog 87 ps) : ∃ x : It, ps = itc x ∧ ItOk x := by
  obtain ⟨pss, rfl, hf⟩ := h.fields Tryz.underlying87
  match pss, hf with
  | [k, s, g, c, p], ⟨hk, hs, hg, hc, hp, _⟩ =>
    obtain ⟨k, rfl, h1⟩ := shp_int hk
    obtain ⟨s, rfl, h2⟩ := shp_seq hs
    obtain ⟨gc, gb, gt, rfl, h3⟩ := shp_group hg
    obtain ⟨p, U, us, rfl, _, _, h4⟩ := shp_coded hc
    obtain ⟨n, rfl, h5⟩ := shp_int hp
    exact ⟨⟨k, s, gc, gb, gt, p, U, us, n⟩, by simp [itc], ⟨h2, h1, h3, h5, h4⟩⟩
theorem shp_items {ps : List PV} (h : Shp Tryz.prog 22 ps) : ∃ l : List It, ps = [.slice (l.flatMap itc) l.length false] ∧ ∀ x ∈ l, ItOk x := by
  obtain ⟨l, rfl, _, hg⟩ := h.of_list (enc := itc) (good := ItOk) Tryz.underlying22 (fun q hq => shp_item hq)
  exact ⟨l, rfl, hg⟩

end Go.Proofs.YtahomnplappbpaaGreatDoor.Lg
