/-
  What the closing texts of the laws of chapter 11 share: arguments as headers.
-/
import Derived.Test.YtahomnplappbpaaGreatDoorRows
import Derived.Test.YtahomnplappbpaaGreatDoorPmL
import Derived.Test.YtahomnplappbpaaGreatDoorPb
namespace Go.Proofs.YtahomnplappbpaaGreatDoor.Lp
set_option linter.all false
set_option linter.unusedVariables false
set_option linter.unusedSimpArgs false
open Go.ChangeShapes Go.WideShapes Go.ChangeAt Go.RowKit Pm Sc

theorem own : ownKnob Tryz.prog.godebug = none := by kernel_rfl
theorem laidOut : laidOutB Tryz.prog = true := by kernel_rfl

theorem bytes_of {zs : List Int} (hw : ∀ z ∈ zs, (Lit.int .u8 z).wf = true) : ∃ p : List UInt8, zs.map (PV.int .u8) = bs p ∧ p.length = zs.length := by
  refine ⟨zs.map fun z => UInt8.ofNat z.toNat, ?_, by simp⟩
  simp only [bs, List.map_map]
  refine List.map_congr_left fun z hz => ?_
  have h1 := hw z hz
  simp [Lit.wf, IntKind.min, IntKind.max, IntKind.signed, IntKind.bits] at h1
  simp only [Function.comp, UInt8.toNat_ofNat']
  congr 1
  omega
theorem shp_bytes {ps : List PV} (h : Shp Tryz.prog 51 ps) : ∃ p : List UInt8, ps = [.slice (bs p) p.length false] := by
  obtain ⟨zs, rfl, _, hw⟩ := h.of_ints Tryz.underlying51 Tryz.underlying5
  obtain ⟨p, e, hl⟩ := bytes_of hw
  exact ⟨p, by rw [e, hl]⟩
theorem shp_mx {ps : List PV} (h : Shp Tryz.prog 36 ps) : ∃ p : List UInt8, ps = bs p ∧ p.length = 64 := by
  obtain ⟨zs, rfl, hl, hw⟩ := h.arr_ints Tryz.underlying36 Tryz.underlying5
  obtain ⟨p, e, hl'⟩ := bytes_of hw
  exact ⟨p, e, by omega⟩
theorem shp_int {ps : List PV} (h : Shp Tryz.prog 3 ps) : ∃ n : Int, ps = [.int .i64 n] ∧ (-9223372036854775808 ≤ n ∧ n ≤ 9223372036854775807) := by
  obtain ⟨n, rfl, hw⟩ := h.of_int Tryz.underlying3
  simp [Lit.wf, IntKind.min, IntKind.max, IntKind.signed, IntKind.bits] at hw
  exact ⟨n, rfl, hw⟩
theorem shp_int64 {ps : List PV} (h : Shp Tryz.prog 2 ps) : ∃ n : Int, ps = [.int .i64 n] ∧ (-9223372036854775808 ≤ n ∧ n ≤ 9223372036854775807) := by
  obtain ⟨n, rfl, hw⟩ := h.of_int Tryz.underlying2
  simp [Lit.wf, IntKind.min, IntKind.max, IntKind.signed, IntKind.bits] at hw
  exact ⟨n, rfl, hw⟩
theorem shp_bool {ps : List PV} (h : Shp Tryz.prog 4 ps) : ∃ b, ps = [.bool b] := h.of_bool Tryz.underlying4
theorem shp_rat {ps : List PV} (h : Shp Tryz.prog 35 ps) : ∃ a b : Int, ps = [.int .i64 a, .int .i64 b] ∧ (-9223372036854775808 ≤ a ∧ a ≤ 9223372036854775807) ∧ (-9223372036854775808 ≤ b ∧ b ≤ 9223372036854775807) := by
  obtain ⟨pss, rfl, hf⟩ := h.fields Tryz.underlying35
  match pss, hf with
  | [a, b], ⟨ha, hb, _⟩ =>
    obtain ⟨a, rfl, h1⟩ := shp_int64 ha
    obtain ⟨b, rfl, h2⟩ := shp_int64 hb
    exact ⟨a, b, rfl, h1, h2⟩
theorem shp_seq {ps : List PV} (h : Shp Tryz.prog 38 ps) : ∃ s : Sq, ps = sqc s ∧ SqOk s := by
  obtain ⟨pss, rfl, hf⟩ := h.fields Tryz.underlying38
  match pss, hf with
  | [a, b, c, d, e, f, g, k], ⟨ha, hb, hc, hd, he, hf, hg, hk, _⟩ =>
    obtain ⟨a, rfl, h1⟩ := shp_int ha
    obtain ⟨b, rfl, h2⟩ := shp_int hb
    obtain ⟨n, m, rfl, h3, h4⟩ := shp_rat hc
    obtain ⟨d, rfl⟩ := shp_bool hd
    obtain ⟨e, rfl, h5⟩ := shp_int he
    obtain ⟨f, rfl, h6⟩ := shp_int hf
    obtain ⟨p, rfl, h7⟩ := shp_mx hg
    obtain ⟨q, rfl, h8⟩ := shp_mx hk
    exact ⟨⟨a, b, n, m, d, e, f, p, q⟩, by simp [sqc], ⟨h1, h2, h3, h4, h5, h6, h7, h8⟩⟩
theorem shp_pic {ps : List PV} (h : Shp Tryz.prog 70 ps) : ∃ p : Pi, ps = pic p ∧ (-9223372036854775808 ≤ p.ty ∧ p.ty ≤ 9223372036854775807) ∧ (-9223372036854775808 ≤ p.st ∧ p.st ≤ 9223372036854775807) ∧ (-9223372036854775808 ≤ p.od ∧ p.od ≤ 9223372036854775807) := by
  obtain ⟨pss, rfl, hf⟩ := h.fields Tryz.underlying70
  match pss, hf with
  | [a, b, c, d, e, f], ⟨ha, hb, hc, hd, he, hf, _⟩ =>
    obtain ⟨a, rfl, h1⟩ := shp_int ha
    obtain ⟨b, rfl, h2⟩ := shp_int hb
    obtain ⟨c, rfl, h3⟩ := shp_int hc
    obtain ⟨d, rfl⟩ := shp_bool hd
    obtain ⟨e, rfl⟩ := shp_bool he
    obtain ⟨f, rfl⟩ := shp_bool hf
    exact ⟨⟨a, b, c, d, e, f⟩, rfl, h1, h2, h3⟩
theorem shp_unit {ps : List PV} (h : Shp Tryz.prog 89 ps) : ∃ (t : Int) (p : List UInt8), ps = [.int .i64 t, .slice (bs p) p.length false] ∧ (-9223372036854775808 ≤ t ∧ t ≤ 9223372036854775807) := by
  obtain ⟨pss, rfl, hf⟩ := h.fields Tryz.underlying89
  match pss, hf with
  | [a, b], ⟨ha, hb, _⟩ =>
    obtain ⟨a, rfl, h1⟩ := shp_int ha
    obtain ⟨p, rfl⟩ := shp_bytes hb
    exact ⟨a, p, rfl, h1⟩

end Go.Proofs.YtahomnplappbpaaGreatDoor.Lp
