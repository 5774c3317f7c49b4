/-
  THE STATEMENT MacroblockFormedSaid, PROVED (from the contract 'law_formed').
-/
import Derived.Test.YtnjnikafhbholaaLm
namespace Go.Proofs.Ytnjnikafhbholaa.Lmf
set_option linter.all false
set_option linter.unusedVariables false
set_option linter.unusedSimpArgs false
open Go.ChangeShapes Go.WideShapes Go.ChangeAt Go.RowKit Pm Sc Lm

theorem law : ∀ xs, ArgsShp Try.prog Try.f13.params.toList xs → CallOk Try.prog 13 xs [] (.bool true) [] := by
  intro xs h
  rw [Try.params13] at h
  obtain ⟨x, r, rfl, hx, h⟩ := h.cons
  obtain ⟨y, r, rfl, hy, h⟩ := h.cons
  obtain ⟨z, r, rfl, hz, h⟩ := h.cons
  obtain rfl := h.nil
  obtain ⟨ps, hp, rfl⟩ := hx.agg (by simp [aggT, Try.underlying92])
  obtain ⟨c, rfl⟩ := shp_cx hp
  obtain ⟨qs, hqs, rfl⟩ := hy.agg (by simp [aggT, Try.underlying104])
  obtain ⟨m, rfl, hm⟩ := shp_mb hqs
  obtain ⟨q, hq, _⟩ := shp_int (hz.one (by simp [aggT, Try.underlying3]))
  cases hq
  exact law_formed c m q [] hm.1

set_option maxRecDepth 100000 in
theorem macroblockFormed_lifted (os : Os) (started : os.Started) (H : Type) (enc : TypeId × Value → H) :
    ReturnsInHanded {} Try.checked os 13 .any (Rows.macroblockFormedSpec.pre6 enc Try.prog Try.f13 Rows.macroblockFormedRow.domain false) (Rows.macroblockFormedSpec.post enc Try.prog Try.f13 false true false false) := by
  refine returnsInHanded_of_change (C := Try.checked) own started (by kernel_rfl) Try.func13
    (ChangeSpec.witness6 (enc := enc) (C := Try.checked) false ⟨#[], #[.agg #[.int .i64 0, .int .i64 0, .bool false, .bool false], .agg (#[.int .i64 0, .bool false, .bool false, .bool false, .bool false] ++ Array.replicate 13 (.int .i64 0) ++ Array.replicate 6 (.bool false) ++ Array.replicate 384 (.int .i64 0)), .int .i64 0], []⟩ 8 (by kernel_rfl) (by kernel_rfl) (by kernel_rfl) (by kernel_rfl)) ?_
  intro W base args ds gs before hval hW _ _
  exact law_call (P := Try.prog) (fn := Try.f13) (n := 12) (tb := 4) (b0 := base) (r := .any) law laidOut (by kernel_rfl) (by kernel_rfl) (by kernel_rfl) Try.underlying4 rfl
    (fun ds hd => match ds, hd with | [d0, d1, d2], _ => rfl) hval hW

theorem macroblockFormed_holds : Rows.MacroblockFormedSaid :=
  OpenClaim.holds_of_wide 13 Try.f13 rfl rfl rfl rfl rfl rfl rfl ⟨rfl, rfl, rfl, rfl, rfl⟩ rfl rfl rfl rfl rfl (by kernel_rfl) Try.func13 (by kernel_rfl)
    (of_decide_eq_true (by kernel_rfl)) (by unfold Func.isWrapper; first | (rw [if_pos (by decide +kernel)]; kernel_rfl) | (rw [if_neg (by decide +kernel)]; exact ⟨rfl, rfl⟩))
    (fun os started H enc _ => macroblockFormed_lifted os started H enc)

end Go.Proofs.Ytnjnikafhbholaa.Lmf
