/-
  THE STATEMENT StartcodeCleanSaid, PROVED (from the contract 'law_clean').
-/
import Derived.Test.YtdeehmdkpdgpfaaLk
import Derived.Test.YtdeehmdkpdgpfaaSh
namespace Go.Proofs.Ytdeehmdkpdgpfaa.Lc
set_option linter.all false
set_option linter.unusedVariables false
set_option linter.unusedSimpArgs false
open Go.ChangeShapes Go.WideShapes Go.ChangeAt Go.RowKit Pm Sc Lk

theorem law : ∀ xs, ArgsShp Try.prog Try.f4.params.toList xs → CallOk Try.prog 4 xs [] (.bool true) [] := by
  intro xs h
  rw [Try.params4] at h
  match xs, h with
  | [x], h =>
    obtain ⟨ps, hp, hx⟩ := h.1
    obtain ⟨t, p, rfl⟩ := shp_unit hp
    rcases hx with ⟨_, rfl⟩ | ⟨ha, hx⟩
    · exact law_clean t p false []
    · cases hx

set_option maxRecDepth 100000 in
theorem startcodeClean_lifted (os : Os) (started : os.Started) (H : Type) (enc : TypeId × Value → H) :
    ReturnsInHanded {} Try.checked os 4 .any (Rows.startcodeCleanSpec.pre6 enc Try.prog Try.f4 Rows.startcodeCleanRow.domain false) (Rows.startcodeCleanSpec.post enc Try.prog Try.f4 false true false false) := by
  refine returnsInHanded_of_change (C := Try.checked) own started (by kernel_rfl) Try.func4
    (ChangeSpec.witness6 (enc := enc) (C := Try.checked) false ⟨#[], #[.agg #[.int .i64 0, .slice none 0 0]], []⟩ 8 (by kernel_rfl) (by kernel_rfl) (by kernel_rfl) (by kernel_rfl)) ?_
  intro W base args ds gs before hval hW _ _
  exact law_call (P := Try.prog) (fn := Try.f4) (n := 12) (tb := 4) (b0 := base) (r := .any) law laidOut (by kernel_rfl) (by kernel_rfl) (by kernel_rfl) Try.underlying4 rfl
    (fun ds hd => match ds, hd with | [d0], _ => rfl) hval hW

theorem startcodeClean_holds : Rows.StartcodeCleanSaid :=
  OpenClaim.holds_of_wide 4 Try.f4 rfl rfl rfl rfl rfl rfl rfl ⟨rfl, rfl, rfl, rfl, rfl⟩ rfl rfl rfl rfl rfl (by kernel_rfl) Try.func4 (by kernel_rfl)
    (of_decide_eq_true (by kernel_rfl)) (by unfold Func.isWrapper; first | (rw [if_pos (by decide +kernel)]; kernel_rfl) | (rw [if_neg (by decide +kernel)]; exact ⟨rfl, rfl⟩))
    (fun os started H enc _ => startcodeClean_lifted os started H enc)

end Go.Proofs.Ytdeehmdkpdgpfaa.Lc
