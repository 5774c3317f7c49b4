/-
  Parts of the proof. No condition.
-/
import Derived.Test.YtbhdollgohgkgaaGreatDoorA13
import Derived.Test.YtbhdollgohgkgaaGreatDoorA29
import Derived.Test.YtbhdollgohgkgaaGreatDoorA12
import Derived.Test.YtbhdollgohgkgaaGreatDoorA15
namespace Go.Proofs.YtbhdollgohgkgaaGreatDoor.Sc
set_option linter.all false
set_option linter.unusedVariables false
set_option linter.unusedSimpArgs false
open Pm Ty S3 Go.RowKit

theorem prs_inv (b : List UInt8) (hu : ∀ x, (unR x).1.length ≤ x.length) (hl : b.length ≤ 400000) : PInv (prsP (spl b).1).1 (spl b).1.length := by
  have hfb := spl_b b hu
  generalize (spl b).1 = us at *
  have hI : ∀ j, j ≤ us.length → PInv (prsP (us.take j)).1 j := by
    intro j
    induction j with
    | zero => intro _; exact ps0_inv
    | succ j ih =>
      intro hj
      rw [prs_take (by omega)]
      have hm := hfb _ (List.getElem_mem (show j < us.length by omega))
      exact pinv_step (ih (by omega)) bgn_ok ⟨hm.1, by omega⟩
  have := hI us.length (Nat.le_refl _)
  rwa [List.take_length] at this
theorem parP_b (b : List UInt8) (hu : ∀ x, (unR x).1.length ≤ x.length) (hl : b.length ≤ 400000) : (parP b).1.length ≤ 2000000 ∧ (∀ x ∈ (parP b).1, SqOk x.s ∧ x.U.length ≤ 2000000 ∧ x.us.length ≤ 2000000) ∧ (parP b).2.1.length ≤ 8000000 := by
  have hi := prs_inv b hu hl
  have hs := spl_len b
  have h2 := (prs_len (spl b).1).2
  unfold parP
  rw [if_neg (by omega)]
  split
  · exact ⟨by simp, fun x hx => (by cases hx), by simp⟩
  · refine ⟨by have := hi.n; dsimp only; omega, fun x hx => ?_, ?_⟩
    · have := hi.its x hx
      exact ⟨this.s, by have := this.U; omega, by have := this.us; omega⟩
    · dsimp only
      unfold badP
      have := (insF_perm (prsP (spl b).1).2 (spl b).2).length_eq
      rw [List.length_append] at this
      omega

set_option maxHeartbeats 4000000 in
set_option maxRecDepth 100000 in
theorem law_parses (b : List UInt8) (f : Bool) (H : Heap) : CallOk Tryz.prog 3 [.slice (bs b) b.length f] H (.bool true) H := by
  refine CallOk.body (F0 := [(0, .slice (bs b) b.length f)]) Tryz.func3 rfl Tryz.ntmps3 Tryz.results3 rfl (by kernel_rfl) rfl ?_
  (repeat refine PW.seq ?_); refine PW.rg rfl fun K hK => ?_; simp (maxSteps := 3000000) (disch := omega) only [go_sem, ↓reduceIte, reduceCtorEq, pappend, plen]; refine hK _ _ ?_; clear hK K
  by_cases h1 : 20000 < b.length
  · have d1 : decide (20000 < (b.length : Int)) = true := decide_eq_true (by omega)
    (repeat refine PW.seq ?_); refine PW.rg rfl fun K hK => ?_; simp (maxSteps := 3000000) (disch := omega) only [go_sem, ↓reduceIte, reduceCtorEq, pappend, plen, length_bs, d1]; refine hK _ _ ?_; clear hK K
    (repeat refine PW.seq ?_); refine PW.cond (t := _) rfl (fun h => ?_) (fun h => ?_)
    rotate_left
    · cases h
    (repeat refine PW.seq ?_); refine PW.rg rfl fun K hK => ?_; simp (maxSteps := 3000000) (disch := omega) only [go_sem, ↓reduceIte, reduceCtorEq, pappend, plen]; refine hK _ _ ?_; clear hK K
    refine PW.ret ⟨.bool true, by simp (maxSteps := 3000000) (disch := omega) only [go_sem, ↓reduceIte, reduceCtorEq, pappend, plen, presults, presult, List.mapM_cons, List.mapM_nil, Option.pure_def, Option.bind_eq_bind, Option.bind_some, Array.toList], ?_⟩
    exact Fin.now
  have d1 : decide (20000 < (b.length : Int)) = false := decide_eq_false (by omega)
  (repeat refine PW.seq ?_); refine PW.rg rfl fun K hK => ?_; simp (maxSteps := 3000000) (disch := omega) only [go_sem, ↓reduceIte, reduceCtorEq, pappend, plen, length_bs, d1]; refine hK _ _ ?_; clear hK K
  (repeat refine PW.seq ?_); refine PW.cond (t := _) rfl (fun h => ?_) (fun h => ?_)
  · cases h
  refine PW.skip ?_
  have hu : ∀ x, (unR x).1.length ≤ x.length := unR_len
  have hfb := spl_b b hu
  have p1 := fun K => parse_ok b f K (by omega) hu (fun g hg => by have := (hfb g hg).2.2; omega)
  have p2 := fun K => parse_ref b f K (by omega) hu
  obtain ⟨b1, b2, b3⟩ := parP_b b hu (by omega)
  generalize parP b = r at *
  obtain ⟨l, D, e⟩ := r
  unfold rvPP at p1 p2
  dsimp only at p1 p2 b1 b2 b3
  have si := fun K => sameItems_ok l l false false K rfl (fun k h h' => SmI.rfl' _) (fun x hx => (b2 x hx).1) (fun x hx => (b2 x hx).1) b1 (fun x hx => (b2 x hx).2)
  have sd := fun K => sameDef_ok D false false K b3
  (repeat refine PW.seq ?_); refine PW.rg rfl fun K hK => ?_; simp (maxSteps := 3000000) (disch := omega) only [go_sem, ↓reduceIte, reduceCtorEq, pappend, plen]; refine VCx.call (p1 _) rfl ?_; simp (maxSteps := 3000000) (disch := omega) only [go_sem, ↓reduceIte, reduceCtorEq, pappend, plen]; refine hK _ _ ?_; clear hK K
  (repeat refine PW.seq ?_); refine PW.rg rfl fun K hK => ?_; simp (maxSteps := 3000000) (disch := omega) only [go_sem, ↓reduceIte, reduceCtorEq, pappend, plen]; refine VCx.call (p2 _) rfl ?_; simp (maxSteps := 3000000) (disch := omega) only [go_sem, ↓reduceIte, reduceCtorEq, pappend, plen]; refine hK _ _ ?_; clear hK K
  (repeat refine PW.seq ?_); refine PW.rg rfl fun K hK => ?_; simp (maxSteps := 3000000) (disch := omega) only [go_sem, ↓reduceIte, reduceCtorEq, pappend, plen]; refine VCx.call (awake12 _) rfl ?_; simp (maxSteps := 3000000) (disch := omega) only [go_sem, ↓reduceIte, reduceCtorEq, pappend, plen, beq_self_eq_true]; refine VCx.call (si _) rfl ?_; simp (maxSteps := 3000000) (disch := omega) only [go_sem, ↓reduceIte, reduceCtorEq, pappend, plen]; refine VCx.call (sd _) rfl ?_; simp (maxSteps := 3000000) (disch := omega) only [go_sem, ↓reduceIte, reduceCtorEq, pappend, plen]; refine hK _ _ ?_; clear hK K
  refine PW.ret ⟨.bool true, by simp (maxSteps := 3000000) (disch := omega) only [go_sem, ↓reduceIte, reduceCtorEq, pappend, plen, presults, presult, List.mapM_cons, List.mapM_nil, Option.pure_def, Option.bind_eq_bind, Option.bind_some, Array.toList], ?_⟩
  exact Fin.now

end Go.Proofs.YtbhdollgohgkgaaGreatDoor.Sc
