/-
  THE STATEMENT StartcodeDamageSaid, PROVED (from the contract 'law_damage').
-/
import Derived.Test.YtdeehmdkpdgpfaaLk
import Derived.Test.YtdeehmdkpdgpfaaSq
namespace Go.Proofs.Ytdeehmdkpdgpfaa.Ld
set_option linter.all false
set_option linter.unusedVariables false
set_option linter.unusedSimpArgs false
open Go.ChangeShapes Go.WideShapes Go.ChangeAt Go.RowKit Pm Sc Lk

theorem law : ∀ xs, ArgsShp Try.prog Try.f10.params.toList xs → CallOk Try.prog 10 xs [] (.bool true) [] := by
  intro xs h
  rw [Try.params10] at h
  match xs, h with
  | [x, y, z, u], h =>
    obtain ⟨ps, hp, hx⟩ := h.1
    obtain ⟨us, rfl, hul⟩ := shp_units hp
    obtain ⟨qs, hq, hy⟩ := h.2.1
    obtain ⟨k, rfl, hk⟩ := hq.of_int Try.underlying3
    obtain ⟨rs, hr, hz⟩ := h.2.2.1
    obtain ⟨a, rfl, ha⟩ := hr.of_int Try.underlying3
    obtain ⟨ss, hs, hu⟩ := h.2.2.2.1
    obtain ⟨b, rfl, hb⟩ := hs.of_int Try.underlying5
    rcases hx with ⟨ha, _⟩ | ⟨_, hx⟩
    · simp [aggT, Try.underlying32] at ha
    rcases hy with ⟨ha, _⟩ | ⟨_, hy⟩
    · simp [aggT, Try.underlying3] at ha
    rcases hz with ⟨ha, _⟩ | ⟨_, hz⟩
    · simp [aggT, Try.underlying3] at ha
    rcases hu with ⟨ha, _⟩ | ⟨_, hu⟩
    · simp [aggT, Try.underlying5] at ha
    cases hx
    cases hy
    cases hz
    cases hu
    simp [Lit.wf, IntKind.min, IntKind.max, IntKind.signed, IntKind.bits] at hk ha
    exact law_damage us k a b false [] hk ha hul

set_option maxRecDepth 100000 in
theorem startcodeDamage_lifted (os : Os) (started : os.Started) (H : Type) (enc : TypeId × Value → H) :
    ReturnsInHanded {} Try.checked os 10 .any (Rows.startcodeDamageSpec.pre6 enc Try.prog Try.f10 Rows.startcodeDamageRow.domain false) (Rows.startcodeDamageSpec.post enc Try.prog Try.f10 false true false false) := by
  refine returnsInHanded_of_change (C := Try.checked) own started (by kernel_rfl) Try.func10
    (ChangeSpec.witness6 (enc := enc) (C := Try.checked) false ⟨#[], #[.slice none 0 0, .int .i64 0, .int .i64 0, .int .u8 0], []⟩ 8 (by kernel_rfl) (by kernel_rfl) (by kernel_rfl) (by kernel_rfl)) ?_
  intro W base args ds gs before hval hW _ _
  exact law_call (P := Try.prog) (fn := Try.f10) (n := 12) (tb := 4) (b0 := base) (r := .any) law laidOut (by kernel_rfl) (by kernel_rfl) (by kernel_rfl) Try.underlying4 rfl
    (fun ds hd => match ds, hd with | [d0, d1, d2, d3], _ => rfl) hval hW

theorem startcodeDamage_holds : Rows.StartcodeDamageSaid :=
  OpenClaim.holds_of_wide 10 Try.f10 rfl rfl rfl rfl rfl rfl rfl ⟨rfl, rfl, rfl, rfl, rfl⟩ rfl rfl rfl rfl rfl (by kernel_rfl) Try.func10 (by kernel_rfl)
    (of_decide_eq_true (by kernel_rfl)) (by unfold Func.isWrapper; first | (rw [if_pos (by decide +kernel)]; kernel_rfl) | (rw [if_neg (by decide +kernel)]; exact ⟨rfl, rfl⟩))
    (fun os started H enc _ => startcodeDamage_lifted os started H enc)

end Go.Proofs.Ytdeehmdkpdgpfaa.Ld
