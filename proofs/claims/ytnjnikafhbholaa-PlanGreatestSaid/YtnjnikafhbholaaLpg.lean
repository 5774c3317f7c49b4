/-
  THE STATEMENT PlanGreatestSaid, PROVED (from the contract 'law_greatest').
-/
import Derived.Test.YtnjnikafhbholaaLo
import Derived.Test.YtnjnikafhbholaaPr
namespace Go.Proofs.Ytnjnikafhbholaa.Lpg
set_option linter.all false
set_option linter.unusedVariables false
set_option linter.unusedSimpArgs false
open Go.ChangeShapes Go.WideShapes Go.ChangeAt Go.RowKit Pm Sc Lo

theorem law : ∀ xs, ArgsShp Try.prog Try.f7.params.toList xs → CallOk Try.prog 7 xs [] (.bool true) [] := by
  intro xs h
  rw [Try.params7] at h
  obtain ⟨x, r, rfl, hx, h⟩ := h.cons
  obtain rfl := h.nil
  obtain ⟨q, hq⟩ := shp_bytes (hx.one (by simp [aggT, Try.underlying24]))
  cases hq
  exact law_greatest q false []

set_option maxRecDepth 100000 in
theorem planGreatest_lifted (os : Os) (started : os.Started) (H : Type) (enc : TypeId × Value → H) :
    ReturnsInHanded {} Try.checked os 7 .any (Rows.planGreatestSpec.pre6 enc Try.prog Try.f7 Rows.planGreatestRow.domain false) (Rows.planGreatestSpec.post enc Try.prog Try.f7 false true false false) := by
  refine returnsInHanded_of_change (C := Try.checked) own started (by kernel_rfl) Try.func7
    (ChangeSpec.witness6 (enc := enc) (C := Try.checked) false ⟨#[], #[.slice none 0 0], []⟩ 8 (by kernel_rfl) (by kernel_rfl) (by kernel_rfl) (by kernel_rfl)) ?_
  intro W base args ds gs before hval hW _ _
  exact law_call (P := Try.prog) (fn := Try.f7) (n := 12) (tb := 4) (b0 := base) (r := .any) law laidOut (by kernel_rfl) (by kernel_rfl) (by kernel_rfl) Try.underlying4 rfl
    (fun ds hd => match ds, hd with | [d0], _ => rfl) hval hW

theorem planGreatest_holds : Rows.PlanGreatestSaid :=
  OpenClaim.holds_of_wide 7 Try.f7 rfl rfl rfl rfl rfl rfl rfl ⟨rfl, rfl, rfl, rfl, rfl⟩ rfl rfl rfl rfl rfl (by kernel_rfl) Try.func7 (by kernel_rfl)
    (of_decide_eq_true (by kernel_rfl)) (by unfold Func.isWrapper; first | (rw [if_pos (by decide +kernel)]; kernel_rfl) | (rw [if_neg (by decide +kernel)]; exact ⟨rfl, rfl⟩))
    (fun os started H enc _ => planGreatest_lifted os started H enc)

end Go.Proofs.Ytnjnikafhbholaa.Lpg
