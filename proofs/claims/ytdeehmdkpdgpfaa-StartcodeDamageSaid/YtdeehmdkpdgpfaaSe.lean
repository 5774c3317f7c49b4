/-
  The law StartcodeFormat: its contract.
-/
import Derived.Test.YtdeehmdkpdgpfaaSd
namespace Go.Proofs.Ytdeehmdkpdgpfaa.Sc
set_option linter.all false
set_option linter.unusedVariables false
set_option linter.unusedSimpArgs false
open Pm Ty Go.RowKit

theorem esc_001 : escR [0, 0, 1] = ([0, 0, 3, 1], 0) := by decide
theorem awake_ok (H : Heap) : CallOk Try.prog 13 [] H (.bool true) H := by
  refine CallOk.body (F0 := []) Try.func13 rfl Try.ntmps13 Try.results13 rfl (by kernel_rfl) rfl ?_
  refine PW.seq ?_; refine PW.rg rfl fun K hK => ?_; simp (disch := omega) only [go_sem, ↓reduceIte, reduceCtorEq, pappend, plen]; refine hK _ _ ?_; clear hK K
  refine PW.seq ?_; refine PW.rg rfl fun K hK => ?_; simp (disch := omega) only [go_sem, ↓reduceIte, reduceCtorEq, pappend, plen]; refine VC.call (escape_ok [0, 0, 1] true _ (by decide)) rfl rfl ?_; rw [esc_001]; simp (disch := omega) only [go_sem, ↓reduceIte, reduceCtorEq, pappend, plen]; refine hK _ _ ?_; clear hK K
  refine PW.seq ?_; refine PW.rg rfl fun K hK => ?_; simp (disch := omega) only [go_sem, ↓reduceIte, reduceCtorEq, pappend, plen]; refine VC.call (same_ok [0, 0, 3, 1] [0, 0, 3, 1] false true _) rfl rfl ?_; simp (disch := omega) only [go_sem, ↓reduceIte, reduceCtorEq, pappend, plen]; refine hK _ _ ?_; clear hK K
  exact PW.ret ⟨_, rfl, Fin.give (Kept.refl H) ((Still.bool _).frz _ _)⟩

theorem law_format (t : Int) (p : List UInt8) (full : Bool) (H : Heap) :
    CallOk Try.prog 3 [.agg [.int .i64 t, .slice (bs p) p.length full]] H (.bool true) H := by
  refine CallOk.body (F0 := [(0, .agg [.int .i64 t, .slice (bs p) p.length full])]) Try.func3 rfl Try.ntmps3 Try.results3 rfl (by kernel_rfl) rfl ?_
  refine PW.seq ?_; refine PW.rg rfl fun K hK => ?_; simp (disch := omega) only [go_sem, ↓reduceIte, reduceCtorEq, pappend, plen]; refine hK _ _ ?_; clear hK K
  refine PW.seq (PW.seq ?_); refine PW.rg rfl fun K hK => ?_; simp (disch := omega) only [go_sem, ↓reduceIte, reduceCtorEq, pappend, plen]; refine hK _ _ ?_; clear hK K
  refine PW.cond (t := _) rfl (fun h => ?_) (fun h => ?_)
  · refine PW.seq ?_; refine PW.rg rfl fun K hK => ?_; simp (disch := omega) only [go_sem, ↓reduceIte, reduceCtorEq, pappend, plen]; refine hK _ _ ?_; clear hK K
    exact PW.ret ⟨_, rfl, Fin.give (Kept.more H _) ((Still.bool _).frz _ _)⟩
  have hl : p.length ≤ 2000 := by have := of_decide_eq_false h; omega
  refine PW.skip (PW.seq ?_); refine PW.rg rfl fun K hK => ?_; simp (disch := omega) only [go_sem, ↓reduceIte, reduceCtorEq, pappend, plen]; refine VC.call (format_ok t p full _ (by omega)) rfl rfl ?_; simp (disch := omega) only [go_sem, ↓reduceIte, reduceCtorEq, pappend, plen]; refine hK _ _ ?_; clear hK K
  refine PW.seq ?_; refine PW.rg rfl fun K hK => ?_; simp (disch := omega) only [go_sem, ↓reduceIte, reduceCtorEq, pappend, plen]; refine VC.call (format_ref t p full _ (by omega)) rfl rfl ?_; simp (disch := omega) only [go_sem, ↓reduceIte, reduceCtorEq, pappend, plen]; refine hK _ _ ?_; clear hK K
  refine PW.seq ?_; refine PW.rg rfl fun K hK => ?_; simp (disch := omega) only [go_sem, ↓reduceIte, reduceCtorEq, pappend, plen]; refine VC.call (awake_ok _) rfl rfl ?_; simp (disch := omega) only [go_sem, ↓reduceIte, reduceCtorEq, pappend, plen]; refine VC.call (same_ok _ _ _ _ _) rfl rfl ?_; simp (disch := omega) only [go_sem, ↓reduceIte, reduceCtorEq, pappend, plen]; refine hK _ _ ?_; clear hK K
  exact PW.ret ⟨_, rfl, Fin.give (Kept.more H _) ((Still.bool _).frz _ _)⟩

end Go.Proofs.Ytdeehmdkpdgpfaa.Sc
