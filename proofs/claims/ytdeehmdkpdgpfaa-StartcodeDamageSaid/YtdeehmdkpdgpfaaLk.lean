/-
  What the closing texts of the laws of chapter 3 share: arguments as bytes and units.
-/
import Derived.Test.YtdeehmdkpdgpfaaRows
import Derived.Test.YtdeehmdkpdgpfaaPmL
import Derived.Test.YtdeehmdkpdgpfaaSh
namespace Go.Proofs.Ytdeehmdkpdgpfaa.Lk
set_option linter.all false
set_option linter.unusedVariables false
set_option linter.unusedSimpArgs false
open Go.ChangeShapes Go.WideShapes Go.ChangeAt Go.RowKit Pm Sc

theorem own : ownKnob Try.prog.godebug = none := by kernel_rfl
theorem laidOut : laidOutB Try.prog = true := by kernel_rfl

theorem shp_bytes {ps : List PV} (h : Shp Try.prog 22 ps) : ∃ p : List UInt8, ps = [.slice (bs p) p.length false] := by
  obtain ⟨zs, rfl, _, hw⟩ := h.of_ints Try.underlying22 Try.underlying5
  refine ⟨zs.map fun z => UInt8.ofNat z.toNat, ?_⟩
  have : zs.map (PV.int .u8) = bs (zs.map fun z => UInt8.ofNat z.toNat) := by
    simp only [bs, List.map_map]
    refine List.map_congr_left fun z hz => ?_
    have h1 := hw z hz
    simp [Lit.wf, IntKind.min, IntKind.max, IntKind.signed, IntKind.bits] at h1
    simp only [Function.comp, UInt8.toNat_ofNat']
    congr 1
    omega
  rw [this]; simp
theorem shp_unit {ps : List PV} (h : Shp Try.prog 24 ps) : ∃ (t : Int) (p : List UInt8), ps = [.int .i64 t, .slice (bs p) p.length false] := by
  obtain ⟨a, b, rfl, ha, hb⟩ := h.of_struct2 Try.underlying24
  obtain ⟨t, rfl, _⟩ := ha.of_int Try.underlying3
  obtain ⟨p, rfl⟩ := shp_bytes hb
  exact ⟨t, p, rfl⟩

theorem shp_units {ps : List PV} (h : Shp Try.prog 32 ps) : ∃ us : List (Int × List UInt8), ps = [.slice (uc false us) us.length false] ∧ us.length ≤ 9223372036854775807 := by
  obtain ⟨us, rfl, hm, _⟩ := h.of_list (enc := fun u : Int × List UInt8 => [.int .i64 u.1, .slice (bs u.2) u.2.length false]) (good := fun _ => True) Try.underlying32 (fun q hq => by
    obtain ⟨t, p, rfl⟩ := shp_unit hq
    exact ⟨(t, p), rfl, trivial⟩)
  exact ⟨us, rfl, by simp [maxLen] at hm; omega⟩
theorem shp_ints {ps : List PV} (h : Shp Try.prog 50 ps) : ∃ l : List Int, ps = [.slice (l.map (.int .i64)) l.length false] ∧ l.length ≤ 9223372036854775807 := by
  obtain ⟨zs, rfl, hm, _⟩ := h.of_ints Try.underlying50 Try.underlying3
  exact ⟨zs, rfl, by simp [maxLen] at hm; omega⟩

end Go.Proofs.Ytdeehmdkpdgpfaa.Lk
