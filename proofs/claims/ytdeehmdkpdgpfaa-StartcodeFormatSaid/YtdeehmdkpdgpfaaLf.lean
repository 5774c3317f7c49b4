/-
  THE STATEMENT StartcodeFormatSaid, PROVED (from the contract 'law_format').
-/
import Derived.Test.YtdeehmdkpdgpfaaRows
import Derived.Test.YtdeehmdkpdgpfaaPmL
import Derived.Test.YtdeehmdkpdgpfaaSe
namespace Go.Proofs.Ytdeehmdkpdgpfaa.Lf
set_option linter.all false
set_option linter.unusedVariables false
set_option linter.unusedSimpArgs false
open Go.ChangeShapes Go.WideShapes Go.ChangeAt Go.RowKit Pm Sc

theorem own : ownKnob Try.prog.godebug = none := by kernel_rfl
theorem laidOut : laidOutB Try.prog = true := by kernel_rfl

theorem shp_bytes {ps : List PV} (h : Shp Try.prog 22 ps) : ∃ p : List UInt8, ps = [.slice (bs p) p.length false] := by
  obtain ⟨zs, rfl, _, hw⟩ := h.of_ints Try.underlying22 Try.underlying5
  refine ⟨zs.map fun z => UInt8.ofNat z.toNat, ?_⟩
  have : zs.map (PV.int .u8) = bs (zs.map fun z => UInt8.ofNat z.toNat) := by
    simp only [bs, List.map_map]
    refine List.map_congr_left fun z hz => ?_
    have h1 := hw z hz
    simp [Lit.wf, IntKind.min, IntKind.max, IntKind.signed, IntKind.bits] at h1
    simp only [Function.comp, UInt8.toNat_ofNat']
    congr 1
    omega
  rw [this]; simp
theorem shp_unit {ps : List PV} (h : Shp Try.prog 24 ps) : ∃ (t : Int) (p : List UInt8), ps = [.int .i64 t, .slice (bs p) p.length false] := by
  obtain ⟨a, b, rfl, ha, hb⟩ := h.of_struct2 Try.underlying24
  obtain ⟨t, rfl, _⟩ := ha.of_int Try.underlying3
  obtain ⟨p, rfl⟩ := shp_bytes hb
  exact ⟨t, p, rfl⟩

theorem law : ∀ xs, ArgsShp Try.prog Try.f3.params.toList xs → CallOk Try.prog 3 xs [] (.bool true) [] := by
  intro xs h
  rw [Try.params3] at h
  match xs, h with
  | [x], h =>
    obtain ⟨ps, hp, hx⟩ := h.1
    obtain ⟨t, p, rfl⟩ := shp_unit hp
    rcases hx with ⟨_, rfl⟩ | ⟨ha, hx⟩
    · exact law_format t p false []
    · cases hx

set_option maxRecDepth 100000 in
theorem startcodeFormat_lifted (os : Os) (started : os.Started) (H : Type) (enc : TypeId × Value → H) :
    ReturnsInHanded {} Try.checked os 3 .any (Rows.startcodeFormatSpec.pre6 enc Try.prog Try.f3 Rows.startcodeFormatRow.domain false) (Rows.startcodeFormatSpec.post enc Try.prog Try.f3 false true false false) := by
  refine returnsInHanded_of_change (C := Try.checked) own started (by kernel_rfl) Try.func3
    (ChangeSpec.witness6 (enc := enc) (C := Try.checked) false ⟨#[], #[.agg #[.int .i64 0, .slice none 0 0]], []⟩ 8 (by kernel_rfl) (by kernel_rfl) (by kernel_rfl) (by kernel_rfl)) ?_
  intro W base args ds gs before hval hW _ _
  exact law_call (P := Try.prog) (fn := Try.f3) (n := 12) (tb := 4) (b0 := base) (r := .any) law laidOut (by kernel_rfl) (by kernel_rfl) (by kernel_rfl) Try.underlying4 rfl
    (fun ds hd => match ds, hd with | [d0], _ => rfl) hval hW

theorem startcodeFormat_holds : Rows.StartcodeFormatSaid :=
  OpenClaim.holds_of_wide 3 Try.f3 rfl rfl rfl rfl rfl rfl rfl ⟨rfl, rfl, rfl, rfl, rfl⟩ rfl rfl rfl rfl rfl (by kernel_rfl) Try.func3 (by kernel_rfl)
    (of_decide_eq_true (by kernel_rfl)) (by unfold Func.isWrapper; first | (rw [if_pos (by decide +kernel)]; kernel_rfl) | (rw [if_neg (by decide +kernel)]; exact ⟨rfl, rfl⟩))
    (fun os started H enc _ => startcodeFormat_lifted os started H enc)

end Go.Proofs.Ytdeehmdkpdgpfaa.Lf
