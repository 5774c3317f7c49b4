/-
  What the closing texts of laws share: arguments of simple types.
-/
import Derived.Test.YtnjnikafhbholaaRows
import Derived.Test.YtnjnikafhbholaaPmL
import Derived.Test.YtnjnikafhbholaaBs
namespace Go.Proofs.Ytnjnikafhbholaa.Lo
set_option linter.all false
set_option linter.unusedVariables false
set_option linter.unusedSimpArgs false
open Go.ChangeShapes Go.WideShapes Go.ChangeAt Go.RowKit Pm Sc

theorem own : ownKnob Try.prog.godebug = none := by kernel_rfl
theorem laidOut : laidOutB Try.prog = true := by kernel_rfl

theorem bytes_of {zs : List Int} (hw : ∀ z ∈ zs, (Lit.int .u8 z).wf = true) : ∃ p : List UInt8, zs.map (PV.int .u8) = bs p ∧ p.length = zs.length := by
  refine ⟨zs.map fun z => UInt8.ofNat z.toNat, ?_, by simp⟩
  simp only [bs, List.map_map]
  refine List.map_congr_left fun z hz => ?_
  have h1 := hw z hz
  simp [Lit.wf, IntKind.min, IntKind.max, IntKind.signed, IntKind.bits] at h1
  simp only [Function.comp, UInt8.toNat_ofNat']
  congr 1
  omega
theorem shp_bytes {ps : List PV} (h : Shp Try.prog 24 ps) : ∃ p : List UInt8, ps = [.slice (bs p) p.length false] := by
  obtain ⟨zs, rfl, _, hw⟩ := h.of_ints Try.underlying24 Try.underlying5
  obtain ⟨p, e, hl⟩ := bytes_of hw
  exact ⟨p, by rw [e, hl]⟩
theorem shp_int {ps : List PV} (h : Shp Try.prog 3 ps) : ∃ n : Int, ps = [.int .i64 n] ∧ (-9223372036854775808 ≤ n ∧ n ≤ 9223372036854775807) := by
  obtain ⟨n, rfl, hw⟩ := h.of_int Try.underlying3
  simp [Lit.wf, IntKind.min, IntKind.max, IntKind.signed, IntKind.bits] at hw
  exact ⟨n, rfl, hw⟩
theorem shp_int64 {ps : List PV} (h : Shp Try.prog 2 ps) : ∃ n : Int, ps = [.int .i64 n] ∧ (-9223372036854775808 ≤ n ∧ n ≤ 9223372036854775807) := by
  obtain ⟨n, rfl, hw⟩ := h.of_int Try.underlying2
  simp [Lit.wf, IntKind.min, IntKind.max, IntKind.signed, IntKind.bits] at hw
  exact ⟨n, rfl, hw⟩
theorem shp_bool {ps : List PV} (h : Shp Try.prog 4 ps) : ∃ b, ps = [.bool b] := h.of_bool Try.underlying4
theorem shp_ints {ps : List PV} (h : Shp Try.prog 46 ps) : ∃ l : List Int, ps = [.slice (is l) l.length false] := by
  obtain ⟨zs, rfl, _, hw⟩ := h.of_ints Try.underlying46 Try.underlying3
  exact ⟨zs, rfl⟩

end Go.Proofs.Ytnjnikafhbholaa.Lo
