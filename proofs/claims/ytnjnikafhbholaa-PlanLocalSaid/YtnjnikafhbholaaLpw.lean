/-
  THE STATEMENT PlanLocalSaid, PROVED (from the contract 'law_local').
-/
import Derived.Test.YtnjnikafhbholaaLq
import Derived.Test.YtnjnikafhbholaaQo
namespace Go.Proofs.Ytnjnikafhbholaa.Lpw
set_option linter.all false
set_option linter.unusedVariables false
set_option linter.unusedSimpArgs false
open Go.ChangeShapes Go.WideShapes Go.ChangeAt Go.RowKit Pm Sc Lq

theorem law : ∀ xs, ArgsShp Try.prog Try.f10.params.toList xs → CallOk Try.prog 10 xs [] (.bool true) [] := by
  intro xs h
  rw [Try.params10] at h
  obtain ⟨x, r, rfl, hx, h⟩ := h.cons
  obtain ⟨y, r, rfl, hy, h⟩ := h.cons
  obtain rfl := h.nil
  obtain ⟨q, hq⟩ := Lo.shp_ints (hx.one (by simp [aggT, Try.underlying46]))
  obtain ⟨l, hl⟩ := Lo.shp_ints (hy.one (by simp [aggT, Try.underlying46]))
  cases hq
  cases hl
  exact law_local q l false false []

set_option maxRecDepth 100000 in
theorem planLocal_lifted (os : Os) (started : os.Started) (H : Type) (enc : TypeId × Value → H) :
    ReturnsInHanded {} Try.checked os 10 .any (Rows.planLocalSpec.pre6 enc Try.prog Try.f10 Rows.planLocalRow.domain false) (Rows.planLocalSpec.post enc Try.prog Try.f10 false true false false) := by
  refine returnsInHanded_of_change (C := Try.checked) own started (by kernel_rfl) Try.func10
    (ChangeSpec.witness6 (enc := enc) (C := Try.checked) false ⟨#[], #[.slice none 0 0, .slice none 0 0], []⟩ 8 (by kernel_rfl) (by kernel_rfl) (by kernel_rfl) (by kernel_rfl)) ?_
  intro W base args ds gs before hval hW _ _
  exact law_call (P := Try.prog) (fn := Try.f10) (n := 12) (tb := 4) (b0 := base) (r := .any) law laidOut (by kernel_rfl) (by kernel_rfl) (by kernel_rfl) Try.underlying4 rfl
    (fun ds hd => match ds, hd with | [d0, d1], _ => rfl) hval hW

theorem planLocal_holds : Rows.PlanLocalSaid :=
  OpenClaim.holds_of_wide 10 Try.f10 rfl rfl rfl rfl rfl rfl rfl ⟨rfl, rfl, rfl, rfl, rfl⟩ rfl rfl rfl rfl rfl (by kernel_rfl) Try.func10 (by kernel_rfl)
    (of_decide_eq_true (by kernel_rfl)) (by unfold Func.isWrapper; first | (rw [if_pos (by decide +kernel)]; kernel_rfl) | (rw [if_neg (by decide +kernel)]; exact ⟨rfl, rfl⟩))
    (fun os started H enc _ => planLocal_lifted os started H enc)

end Go.Proofs.Ytnjnikafhbholaa.Lpw
