/-
  What the closing texts of the laws of chapter 31 share: arguments as indexes and plans.
-/
import Derived.Test.YtnjnikafhbholaaLp
import Derived.Test.YtnjnikafhbholaaLo
import Derived.Test.YtnjnikafhbholaaQf
import Derived.Test.YtnjnikafhbholaaQg
namespace Go.Proofs.Ytnjnikafhbholaa.Lq
set_option linter.all false
set_option linter.unusedVariables false
set_option linter.unusedSimpArgs false
open Go.ChangeShapes Go.WideShapes Go.ChangeAt Go.RowKit Pm Sc

theorem own : ownKnob Try.prog.godebug = none := by kernel_rfl
theorem laidOut : laidOutB Try.prog = true := by kernel_rfl
theorem shp_entry {ps : List PV} (h : Shp Try.prog 89 ps) : ∃ e : En, ps = enc e := by
  obtain ⟨pss, rfl, hf⟩ := h.fields Try.underlying89
  match pss, hf with
  | [a, b, c, d, e], ⟨ha, hb, hc, hd, he, _⟩ =>
    obtain ⟨a, rfl, h1⟩ := Lp.shp_int ha
    obtain ⟨b, rfl⟩ := Lp.shp_bool hb
    obtain ⟨c, rfl, h3⟩ := Lp.shp_int hc
    obtain ⟨d, rfl⟩ := Lp.shp_bool hd
    obtain ⟨e, rfl⟩ := Lp.shp_bool he
    exact ⟨⟨a, b, c, d, e⟩, rfl⟩
theorem shp_entries {ps : List PV} (h : Shp Try.prog 43 ps) : ∃ l : List En, ps = [.slice (l.flatMap enc) l.length false] ∧ l.length ≤ 9223372036854775807 := by
  obtain ⟨l, rfl, hm, _⟩ := h.of_list (enc := enc) (good := fun _ => True) Try.underlying43 (fun q hq => by
    obtain ⟨e, rfl⟩ := shp_entry hq
    exact ⟨e, rfl, trivial⟩)
  refine ⟨l, ?_, by simpa [maxLen] using hm⟩
  first | rfl | simp [List.flatMap]
theorem shp_index {ps : List PV} (h : Shp Try.prog 45 ps) : ∃ x : Ix, ps = ixc x ∧ SqL x.sq ∧ x.en.length ≤ 9223372036854775807 := by
  obtain ⟨pss, rfl, hf⟩ := h.fields Try.underlying45
  match pss, hf with
  | [a, b, c], ⟨ha, hb, hc, _⟩ =>
    obtain ⟨a, rfl, _⟩ := ha.of_str Try.underlying9
    obtain ⟨b, rfl, h2⟩ := Lp.shp_seq hb
    obtain ⟨c, rfl, h3⟩ := shp_entries hc
    exact ⟨⟨a, b, c, false⟩, by simp [ixc], h2.toL, h3⟩
theorem shp_part {ps : List PV} (h : Shp Try.prog 77 ps) : ∃ e : Pl.Pa, ps = pac e := by
  obtain ⟨pss, rfl, hf⟩ := h.fields Try.underlying77
  match pss, hf with
  | [a, b, c, d, e], ⟨ha, hb, hc, hd, he, _⟩ =>
    obtain ⟨a, rfl⟩ := Lp.shp_bool ha
    obtain ⟨b, rfl, _⟩ := Lp.shp_int64 hb
    obtain ⟨c, rfl, h3⟩ := Lp.shp_int64 hc
    obtain ⟨d, rfl, _⟩ := hd.of_str Try.underlying9
    obtain ⟨e, rfl, _⟩ := Lp.shp_int64 he
    exact ⟨⟨a, b, c, d, e⟩, rfl⟩
theorem shp_plan {ps : List PV} (h : Shp Try.prog 71 ps) : ∃ l : List Pl.Pa, ps = [.slice (l.flatMap pac) l.length false] ∧ l.length ≤ 9223372036854775807 := by
  obtain ⟨pss, rfl, hf⟩ := h.fields Try.underlying71
  match pss, hf with
  | [a], ⟨ha, _⟩ =>
    obtain ⟨l, rfl, hm, _⟩ := ha.of_list (enc := pac) (good := fun _ => True) Try.underlying69 (fun q hq => by
      obtain ⟨e, rfl⟩ := shp_part hq
      exact ⟨e, rfl, trivial⟩)
    refine ⟨l, ?_, by simpa [maxLen] using hm⟩
    first | rfl | simp [List.flatMap]

end Go.Proofs.Ytnjnikafhbholaa.Lq
