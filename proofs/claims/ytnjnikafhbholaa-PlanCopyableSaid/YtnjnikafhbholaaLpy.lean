/-
  THE STATEMENT PlanCopyableSaid, PROVED (from the contract 'law_copyable').
-/
import Derived.Test.YtnjnikafhbholaaLo
import Derived.Test.YtnjnikafhbholaaPu
namespace Go.Proofs.Ytnjnikafhbholaa.Lpy
set_option linter.all false
set_option linter.unusedVariables false
set_option linter.unusedSimpArgs false
open Go.ChangeShapes Go.WideShapes Go.ChangeAt Go.RowKit Pm Sc Lo

theorem law : ∀ xs, ArgsShp Try.prog Try.f6.params.toList xs → CallOk Try.prog 6 xs [] (.bool true) [] := by
  intro xs h
  rw [Try.params6] at h
  obtain ⟨x, r, rfl, hx, h⟩ := h.cons
  obtain ⟨y, r, rfl, hy, h⟩ := h.cons
  obtain rfl := h.nil
  obtain ⟨q, hq⟩ := shp_ints (hx.one (by simp [aggT, Try.underlying46]))
  obtain ⟨l, hl⟩ := shp_ints (hy.one (by simp [aggT, Try.underlying46]))
  cases hq
  cases hl
  exact law_copyable q l false false []

set_option maxRecDepth 100000 in
theorem planCopyable_lifted (os : Os) (started : os.Started) (H : Type) (enc : TypeId × Value → H) :
    ReturnsInHanded {} Try.checked os 6 .any (Rows.planCopyableSpec.pre6 enc Try.prog Try.f6 Rows.planCopyableRow.domain false) (Rows.planCopyableSpec.post enc Try.prog Try.f6 false true false false) := by
  refine returnsInHanded_of_change (C := Try.checked) own started (by kernel_rfl) Try.func6
    (ChangeSpec.witness6 (enc := enc) (C := Try.checked) false ⟨#[], #[.slice none 0 0, .slice none 0 0], []⟩ 8 (by kernel_rfl) (by kernel_rfl) (by kernel_rfl) (by kernel_rfl)) ?_
  intro W base args ds gs before hval hW _ _
  exact law_call (P := Try.prog) (fn := Try.f6) (n := 12) (tb := 4) (b0 := base) (r := .any) law laidOut (by kernel_rfl) (by kernel_rfl) (by kernel_rfl) Try.underlying4 rfl
    (fun ds hd => match ds, hd with | [d0, d1], _ => rfl) hval hW

theorem planCopyable_holds : Rows.PlanCopyableSaid :=
  OpenClaim.holds_of_wide 6 Try.f6 rfl rfl rfl rfl rfl rfl rfl ⟨rfl, rfl, rfl, rfl, rfl⟩ rfl rfl rfl rfl rfl (by kernel_rfl) Try.func6 (by kernel_rfl)
    (of_decide_eq_true (by kernel_rfl)) (by unfold Func.isWrapper; first | (rw [if_pos (by decide +kernel)]; kernel_rfl) | (rw [if_neg (by decide +kernel)]; exact ⟨rfl, rfl⟩))
    (fun os started H enc _ => planCopyable_lifted os started H enc)

end Go.Proofs.Ytnjnikafhbholaa.Lpy
