/-
  What the closing texts of laws of chapter 10 share: contexts and reference pictures.
-/
import Derived.Test.YtooejnahjjmamaaRows
import Derived.Test.YtooejnahjjmamaaPmL
import Derived.Test.YtooejnahjjmamaaFd
namespace Go.Proofs.Ytooejnahjjmamaa.Ln
set_option linter.all false
set_option linter.unusedVariables false
set_option linter.unusedSimpArgs false
open Go.ChangeShapes Go.WideShapes Go.ChangeAt Go.RowKit Pm Sc

theorem own : ownKnob Try.prog.godebug = none := by kernel_rfl
theorem laidOut : laidOutB Try.prog = true := by kernel_rfl

theorem bytes_of {zs : List Int} (hw : ∀ z ∈ zs, (Lit.int .u8 z).wf = true) : ∃ p : List UInt8, zs.map (PV.int .u8) = bs p ∧ p.length = zs.length := by
  refine ⟨zs.map fun z => UInt8.ofNat z.toNat, ?_, by simp⟩
  simp only [bs, List.map_map]
  refine List.map_congr_left fun z hz => ?_
  have h1 := hw z hz
  simp [Lit.wf, IntKind.min, IntKind.max, IntKind.signed, IntKind.bits] at h1
  simp only [Function.comp, UInt8.toNat_ofNat']
  congr 1
  omega
theorem shp_bytes {ps : List PV} (h : Shp Try.prog 24 ps) : ∃ p : List UInt8, ps = [.slice (bs p) p.length false] := by
  obtain ⟨zs, rfl, _, hw⟩ := h.of_ints Try.underlying24 Try.underlying5
  obtain ⟨p, e, hl⟩ := bytes_of hw
  exact ⟨p, by rw [e, hl]⟩
theorem shp_int {ps : List PV} (h : Shp Try.prog 3 ps) : ∃ n : Int, ps = [.int .i64 n] ∧ (-9223372036854775808 ≤ n ∧ n ≤ 9223372036854775807) := by
  obtain ⟨n, rfl, hw⟩ := h.of_int Try.underlying3
  simp [Lit.wf, IntKind.min, IntKind.max, IntKind.signed, IntKind.bits] at hw
  exact ⟨n, rfl, hw⟩
theorem shp_bool {ps : List PV} (h : Shp Try.prog 4 ps) : ∃ b, ps = [.bool b] := h.of_bool Try.underlying4
theorem shp_cx {ps : List PV} (h : Shp Try.prog 23 ps) : ∃ c : Cx, ps = cxc c := by
  obtain ⟨pss, rfl, hf⟩ := h.fields Try.underlying23
  match pss, hf with
  | [a, b, c, d], ⟨ha, hb, hc, hd, _⟩ =>
    obtain ⟨a, rfl, _⟩ := shp_int ha
    obtain ⟨b, rfl, _⟩ := shp_int hb
    obtain ⟨c, rfl⟩ := shp_bool hc
    obtain ⟨d, rfl⟩ := shp_bool hd
    exact ⟨⟨a, b, c, d⟩, rfl⟩
theorem shp_frame {ps : List PV} (h : Shp Try.prog 26 ps) : ∃ f : Fm, ps = fmc f := by
  obtain ⟨pss, rfl, hf⟩ := h.fields Try.underlying26
  match pss, hf with
  | [a, b, c, d, e], ⟨ha, hb, hc, hd, he, _⟩ =>
    obtain ⟨a, rfl, _⟩ := shp_int ha
    obtain ⟨b, rfl, _⟩ := shp_int hb
    obtain ⟨c, rfl⟩ := shp_bytes hc
    obtain ⟨d, rfl⟩ := shp_bytes hd
    obtain ⟨e, rfl⟩ := shp_bytes he
    exact ⟨⟨a, b, c, d, e⟩, rfl⟩
theorem shp_refs {ps : List PV} (h : Shp Try.prog 28 ps) : ∃ a b c : Fm, ps = fmc a ++ (fmc b ++ fmc c) := by
  obtain ⟨pss, rfl, hf⟩ := h.fields Try.underlying28
  match pss, hf with
  | [a, b, c], ⟨ha, hb, hc, _⟩ =>
    obtain ⟨a, rfl⟩ := shp_frame ha
    obtain ⟨b, rfl⟩ := shp_frame hb
    obtain ⟨c, rfl⟩ := shp_frame hc
    exact ⟨a, b, c, by simp⟩

end Go.Proofs.Ytooejnahjjmamaa.Ln
