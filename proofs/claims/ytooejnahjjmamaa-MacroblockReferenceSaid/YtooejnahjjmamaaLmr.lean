/-
  THE STATEMENT MacroblockReferenceSaid, PROVED (from the contract 'law_reference').
-/
import Derived.Test.YtooejnahjjmamaaLn
import Derived.Test.YtooejnahjjmamaaFg
namespace Go.Proofs.Ytooejnahjjmamaa.Lmr
set_option linter.all false
set_option linter.unusedVariables false
set_option linter.unusedSimpArgs false
open Go.ChangeShapes Go.WideShapes Go.ChangeAt Go.RowKit Pm Sc Ln

theorem law : ∀ xs, ArgsShp Try.prog Try.f3.params.toList xs → CallOk Try.prog 3 xs [] (.bool true) [] := by
  intro xs h
  rw [Try.params3] at h
  obtain ⟨x, r, rfl, hx, h⟩ := h.cons
  obtain ⟨y, r, rfl, hy, h⟩ := h.cons
  obtain ⟨z, r, rfl, hz, h⟩ := h.cons
  obtain ⟨q, r, rfl, hq, h⟩ := h.cons
  obtain rfl := h.nil
  obtain ⟨ps, hp, rfl⟩ := hx.agg (by simp [aggT, Try.underlying23])
  obtain ⟨c, rfl⟩ := shp_cx hp
  obtain ⟨qs, hqs, rfl⟩ := hy.agg (by simp [aggT, Try.underlying28])
  obtain ⟨pa, fu, fi, rfl⟩ := shp_refs hqs
  obtain ⟨dir, hd, _⟩ := shp_int (hz.one (by simp [aggT, Try.underlying3]))
  obtain ⟨sel, hs, _⟩ := shp_int (hq.one (by simp [aggT, Try.underlying3]))
  cases hd
  cases hs
  exact law_reference c pa fu fi dir sel []

set_option maxRecDepth 100000 in
theorem macroblockReference_lifted (os : Os) (started : os.Started) (H : Type) (enc : TypeId × Value → H) :
    ReturnsInHanded {} Try.checked os 3 .any (Rows.macroblockReferenceSpec.pre6 enc Try.prog Try.f3 Rows.macroblockReferenceRow.domain false) (Rows.macroblockReferenceSpec.post enc Try.prog Try.f3 false true false false) := by
  refine returnsInHanded_of_change (C := Try.checked) own started (by kernel_rfl) Try.func3
    (ChangeSpec.witness6 (enc := enc) (C := Try.checked) false ⟨#[], #[.agg #[.int .i64 0, .int .i64 0, .bool false, .bool false], .agg #[.int .i64 0, .int .i64 0, .slice none 0 0, .slice none 0 0, .slice none 0 0, .int .i64 0, .int .i64 0, .slice none 0 0, .slice none 0 0, .slice none 0 0, .int .i64 0, .int .i64 0, .slice none 0 0, .slice none 0 0, .slice none 0 0], .int .i64 0, .int .i64 0], []⟩ 8 (by kernel_rfl) (by kernel_rfl) (by kernel_rfl) (by kernel_rfl)) ?_
  intro W base args ds gs before hval hW _ _
  exact law_call (P := Try.prog) (fn := Try.f3) (n := 12) (tb := 4) (b0 := base) (r := .any) law laidOut (by kernel_rfl) (by kernel_rfl) (by kernel_rfl) Try.underlying4 rfl
    (fun ds hd => match ds, hd with | [d0, d1, d2, d3], _ => rfl) hval hW

theorem macroblockReference_holds : Rows.MacroblockReferenceSaid :=
  OpenClaim.holds_of_wide 3 Try.f3 rfl rfl rfl rfl rfl rfl rfl ⟨rfl, rfl, rfl, rfl, rfl⟩ rfl rfl rfl rfl rfl (by kernel_rfl) Try.func3 (by kernel_rfl)
    (of_decide_eq_true (by kernel_rfl)) (by unfold Func.isWrapper; first | (rw [if_pos (by decide +kernel)]; kernel_rfl) | (rw [if_neg (by decide +kernel)]; exact ⟨rfl, rfl⟩))
    (fun os started H enc _ => macroblockReference_lifted os started H enc)

end Go.Proofs.Ytooejnahjjmamaa.Lmr
