/-
  THE STATEMENT PlanUsableSaid, PROVED (from the contract 'law_usable').
-/
import Derived.Test.YtnjnikafhbholaaLq
namespace Go.Proofs.Ytnjnikafhbholaa.Lpu
set_option linter.all false
set_option linter.unusedVariables false
set_option linter.unusedSimpArgs false
open Go.ChangeShapes Go.WideShapes Go.ChangeAt Go.RowKit Pm Sc Lq

theorem law : ∀ xs, ArgsShp Try.prog Try.f5.params.toList xs → CallOk Try.prog 5 xs [] (.bool true) [] := by
  intro xs h
  rw [Try.params5] at h
  obtain ⟨x, r, rfl, hx, h⟩ := h.cons
  obtain ⟨y, r, rfl, hy, h⟩ := h.cons
  obtain ⟨z, r, rfl, hz, h⟩ := h.cons
  obtain ⟨l, r, rfl, hl, h⟩ := h.cons
  obtain ⟨t, r, rfl, ht, h⟩ := h.cons
  obtain ⟨n, r, rfl, hn, h⟩ := h.cons
  obtain rfl := h.nil
  obtain ⟨ps, hp, rfl⟩ := hx.agg (by simp [aggT, Try.underlying39])
  obtain ⟨a, rfl, ha⟩ := Lp.shp_seq hp
  obtain ⟨ps, hp, rfl⟩ := hy.agg (by simp [aggT, Try.underlying39])
  obtain ⟨b, rfl, hb⟩ := Lp.shp_seq hp
  obtain ⟨ps, hp, rfl⟩ := hz.agg (by simp [aggT, Try.underlying45])
  obtain ⟨ix, rfl, h1, h2⟩ := shp_index hp
  obtain ⟨q, hq⟩ := Lo.shp_ints (hl.one (by simp [aggT, Try.underlying46]))
  obtain ⟨tt, htt⟩ := Lo.shp_bool (ht.one (by simp [aggT, Try.underlying4]))
  obtain ⟨nn, hnn, _⟩ := Lo.shp_int64 (hn.one (by simp [aggT, Try.underlying2]))
  cases hq
  cases htt
  cases hnn
  exact law_usable a b ix q false tt nn [] ha.toL hb.toL h1 h2

set_option maxRecDepth 100000 in
theorem planUsable_lifted (os : Os) (started : os.Started) (H : Type) (enc : TypeId × Value → H) :
    ReturnsInHanded {} Try.checked os 5 .any (Rows.planUsableSpec.pre6 enc Try.prog Try.f5 Rows.planUsableRow.domain false) (Rows.planUsableSpec.post enc Try.prog Try.f5 false true false false) := by
  refine returnsInHanded_of_change (C := Try.checked) own started (by kernel_rfl) Try.func5
    (ChangeSpec.witness6 (enc := enc) (C := Try.checked) false ⟨#[], #[.agg (#[.int .i64 0, .int .i64 0, .int .i64 0, .int .i64 0, .bool false, .int .i64 0, .int .i64 0] ++ Array.replicate 128 (.int .u8 0)), .agg (#[.int .i64 0, .int .i64 0, .int .i64 0, .int .i64 0, .bool false, .int .i64 0, .int .i64 0] ++ Array.replicate 128 (.int .u8 0)), .agg (#[.string ⟨#[]⟩, .int .i64 0, .int .i64 0, .int .i64 0, .int .i64 0, .bool false, .int .i64 0, .int .i64 0] ++ Array.replicate 128 (.int .u8 0) ++ #[.slice none 0 0]), .slice none 0 0, .bool false, .int .i64 0], []⟩ 8 (by kernel_rfl) (by kernel_rfl) (by kernel_rfl) (by kernel_rfl)) ?_
  intro W base args ds gs before hval hW _ _
  exact law_call (P := Try.prog) (fn := Try.f5) (n := 12) (tb := 4) (b0 := base) (r := .any) law laidOut (by kernel_rfl) (by kernel_rfl) (by kernel_rfl) Try.underlying4 rfl
    (fun ds hd => match ds, hd with | [d0, d1, d2, d3, d4, d5], _ => rfl) hval hW

theorem planUsable_holds : Rows.PlanUsableSaid :=
  OpenClaim.holds_of_wide 5 Try.f5 rfl rfl rfl rfl rfl rfl rfl ⟨rfl, rfl, rfl, rfl, rfl⟩ rfl rfl rfl rfl rfl (by kernel_rfl) Try.func5 (by kernel_rfl)
    (of_decide_eq_true (by kernel_rfl)) (by unfold Func.isWrapper; first | (rw [if_pos (by decide +kernel)]; kernel_rfl) | (rw [if_neg (by decide +kernel)]; exact ⟨rfl, rfl⟩))
    (fun os started H enc _ => planUsable_lifted os started H enc)

end Go.Proofs.Ytnjnikafhbholaa.Lpu
