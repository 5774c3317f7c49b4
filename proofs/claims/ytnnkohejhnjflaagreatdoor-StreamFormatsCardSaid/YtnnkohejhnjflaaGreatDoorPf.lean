/-
  Contracts of chapter 11: TakeHeader, the reference's.
-/
import Derived.Test.YtnnkohejhnjflaaGreatDoorPe
namespace Go.Proofs.YtnnkohejhnjflaaGreatDoor.Sc
set_option linter.all false
set_option linter.unusedVariables false
set_option linter.unusedSimpArgs false
open Pm Ty Go.RowKit

set_option maxHeartbeats 1600000 in
theorem takeH_ref (t : Int) (q : List UInt8) (f : Bool) (hq : q.length ≤ 1000000) (H : Heap) : CallOk Tryz.prog 92 [.agg [.int .i64 t, .slice (bs q) q.length f]] H (.tup [.agg (pic (takeH t q).1), .int .i64 (takeH t q).2]) H := by
  generalize hr : takeH t q = r
  refine CallOk.body (F0 := [(0, .agg [.int .i64 t, .slice (bs q) q.length f])]) Tryz.func92 rfl Tryz.ntmps92 Tryz.results92 rfl (by kernel_rfl) rfl ?_
  (repeat refine PW.seq ?_); refine PW.rg rfl fun K hK => ?_; simp (maxSteps := 3000000) (disch := omega) only [go_sem, ↓reduceIte, reduceCtorEq, pappend, plen]; refine hK _ _ ?_; clear hK K
  by_cases hb : q.length = 0 ∨ lastB q = 0
  · (repeat refine PW.seq ?_); refine PW.rg rfl fun K hK => ?_; simp (maxSteps := 3000000) (disch := omega) only [go_sem, ↓reduceIte, reduceCtorEq, pappend, plen]; refine VCx.call (open_bad q f _ (by omega) hb) rfl ?_; simp (maxSteps := 3000000) (disch := omega) only [go_sem, ↓reduceIte, reduceCtorEq, pappend, plen]; refine hK _ _ ?_; clear hK K
    (repeat refine PW.seq ?_); refine PW.rg rfl fun K hK => ?_; simp (maxSteps := 3000000) (disch := omega) only [go_sem, ↓reduceIte, reduceCtorEq, pappend, plen]; refine hK _ _ ?_; clear hK K
    (repeat refine PW.seq ?_); refine PW.cond (t := _) rfl (fun h => ?_) (fun h => ?_)
    · (repeat refine PW.seq ?_); refine PW.rg rfl fun K hK => ?_; simp (maxSteps := 3000000) (disch := omega) only [go_sem, ↓reduceIte, reduceCtorEq, pappend, plen]; refine hK _ _ ?_; clear hK K
      refine PW.ret ⟨.tup [.agg [.int .i64 0, .int .i64 0, .int .i64 0, .bool false, .bool false, .bool false], .int .i64 3], by simp (maxSteps := 3000000) (disch := omega) only [go_sem, ↓reduceIte, reduceCtorEq, pappend, plen, presults, presult, List.mapM_cons, List.mapM_nil, Option.pure_def, Option.bind_eq_bind, Option.bind_some, Array.toList], ?_⟩
      have : r = (pi0, 3) := by rw [← hr, takeH, if_neg (by omega)]
      rw [this]
      exact Fin.base (.id (pe_scoped _ pi0 3))
    · cases h
  have hb1 : q.length ≠ 0 := fun e => hb (.inl e)
  have hb2 : lastB q ≠ 0 := fun e => hb (.inr e)
  obtain ⟨n1, n2, n3⟩ := nb_one q hb1 hb2
  (repeat refine PW.seq ?_); refine PW.rg rfl fun K hK => ?_; simp (maxSteps := 3000000) (disch := omega) only [go_sem, ↓reduceIte, reduceCtorEq, pappend, plen]; refine VCx.call (open_ok q f _ (by omega) hb1 hb2) rfl ?_; simp (maxSteps := 3000000) (disch := omega) only [go_sem, ↓reduceIte, reduceCtorEq, pappend, plen]; refine hK _ _ ?_; clear hK K
  by_cases h1 : t = 181
  case neg =>
    have e1 : (t != 181) = true := by simpa using h1
    (repeat refine PW.seq ?_); refine PW.rg rfl fun K hK => ?_; simp (maxSteps := 3000000) (disch := omega) only [go_sem, ↓reduceIte, reduceCtorEq, pappend, plen, e1]; refine hK _ _ ?_; clear hK K
    (repeat refine PW.seq ?_); refine PW.cond (t := _) rfl (fun h => ?_) (fun h => ?_)
    · (repeat refine PW.seq ?_); refine PW.rg rfl fun K hK => ?_; simp (maxSteps := 3000000) (disch := omega) only [go_sem, ↓reduceIte, reduceCtorEq, pappend, plen]; refine hK _ _ ?_; clear hK K
      refine PW.ret ⟨.tup [.agg [.int .i64 0, .int .i64 0, .int .i64 0, .bool false, .bool false, .bool false], .int .i64 3], by simp (maxSteps := 3000000) (disch := omega) only [go_sem, ↓reduceIte, reduceCtorEq, pappend, plen, presults, presult, List.mapM_cons, List.mapM_nil, Option.pure_def, Option.bind_eq_bind, Option.bind_some, Array.toList], ?_⟩
      have : r = (pi0, 3) := by rw [← hr, takeH, if_neg (by simp [h1])]
      rw [this]
      exact Fin.base (.id (pe_scoped _ pi0 3))
    · cases h
  subst h1
  (repeat refine PW.seq ?_); refine PW.rg rfl fun K hK => ?_; simp (maxSteps := 3000000) (disch := omega) only [go_sem, ↓reduceIte, reduceCtorEq, pappend, plen]; refine VCx.call (rleft_ref (H.length + 3) (H.length + 2) (8 * q.length) q (nb q) 0 _ (hp3 _ _ _ _ _ _) (hp2 _ _ _ _ _) (by omega) (by omega)) rfl ?_; simp (maxSteps := 3000000) (disch := omega) only [go_sem, ↓reduceIte, reduceCtorEq, pappend, plen]; refine hK _ _ ?_; clear hK K
  (repeat refine PW.seq ?_); refine PW.cond (t := _) rfl (fun h => ?_) (fun h => ?_)
  · have h17 : nb q ≠ 17 := by simp at h; omega
    (repeat refine PW.seq ?_); refine PW.rg rfl fun K hK => ?_; simp (maxSteps := 3000000) (disch := omega) only [go_sem, ↓reduceIte, reduceCtorEq, pappend, plen]; refine hK _ _ ?_; clear hK K
    refine PW.ret ⟨.tup [.agg [.int .i64 0, .int .i64 0, .int .i64 0, .bool false, .bool false, .bool false], .int .i64 3], by simp (maxSteps := 3000000) (disch := omega) only [go_sem, ↓reduceIte, reduceCtorEq, pappend, plen, presults, presult, List.mapM_cons, List.mapM_nil, Option.pure_def, Option.bind_eq_bind, Option.bind_some, Array.toList], ?_⟩
    have : r = (pi0, 3) := by rw [← hr, takeH, if_neg (by simp [h17])]
    rw [this]
    exact Fin.base (.id (pe_scoped _ pi0 3))
  have h17 : nb q = 17 := by simp at h; omega
  refine PW.skip ?_
  rw [h17]
  have hv : ∀ a m, m ≤ 10 → vl q a m < 1024 := fun a m hm => by
    have h1 := vl_lt q a m
    have : 2 ^ m ≤ 2 ^ 10 := Nat.pow_le_pow_right (by omega) hm
    omega
  have v1 := hv 0 10 (by omega)
  have v2 := hv 10 2 (by omega)
  have v3 := hv 12 2 (by omega)
  have v4 := hv 14 1 (by omega)
  have v5 := hv 15 1 (by omega)
  have v6 := hv 16 1 (by omega)
  have tk := fun (U P : Blk) (K : Heap) (a m : Nat) (ha : a + m ≤ 17) (hm : m ≤ 32) => rtake_ref (H.length + 3) (H.length + 2) (8 * q.length) q 17 a m (H ++ U :: P :: rB q (8 * q.length) :: rR (H.length + 2) (8 * q.length) 17 a :: K) (hp3 _ _ _ _ _ _) (hp2 _ _ _ _ _) (by omega) ha (by omega) (by omega) hm
  simp only [hs3] at tk
  (repeat refine PW.seq ?_); refine PW.rg rfl fun K hK => ?_; simp (maxSteps := 3000000) (disch := omega) only [go_sem, ↓reduceIte, reduceCtorEq, pappend, plen]; refine VCx.call (tk _ _ _ 0 10 (by omega) (by omega)) rfl ?_; simp (maxSteps := 3000000) (disch := omega) only [go_sem, ↓reduceIte, reduceCtorEq, pappend, plen]; refine hK _ _ ?_; clear hK K
  (repeat refine PW.seq ?_); refine PW.rg rfl fun K hK => ?_; simp (maxSteps := 3000000) (disch := omega) only [go_sem, ↓reduceIte, reduceCtorEq, pappend, plen]; refine VCx.call (tk _ _ _ 10 2 (by omega) (by omega)) rfl ?_; simp (maxSteps := 3000000) (disch := omega) only [go_sem, ↓reduceIte, reduceCtorEq, pappend, plen]; refine hK _ _ ?_; clear hK K
  (repeat refine PW.seq ?_); refine PW.rg rfl fun K hK => ?_; simp (maxSteps := 3000000) (disch := omega) only [go_sem, ↓reduceIte, reduceCtorEq, pappend, plen]; refine VCx.call (tk _ _ _ 12 2 (by omega) (by omega)) rfl ?_; simp (maxSteps := 3000000) (disch := omega) only [go_sem, ↓reduceIte, reduceCtorEq, pappend, plen]; refine hK _ _ ?_; clear hK K
  (repeat refine PW.seq ?_); refine PW.rg rfl fun K hK => ?_; simp (maxSteps := 3000000) (disch := omega) only [go_sem, ↓reduceIte, reduceCtorEq, pappend, plen]; refine VCx.call (tk _ _ _ 14 1 (by omega) (by omega)) rfl ?_; simp (maxSteps := 3000000) (disch := omega) only [go_sem, ↓reduceIte, reduceCtorEq, pappend, plen]; refine hK _ _ ?_; clear hK K
  (repeat refine PW.seq ?_); refine PW.rg rfl fun K hK => ?_; simp (maxSteps := 3000000) (disch := omega) only [go_sem, ↓reduceIte, reduceCtorEq, pappend, plen]; refine VCx.call (tk _ _ _ 15 1 (by omega) (by omega)) rfl ?_; simp (maxSteps := 3000000) (disch := omega) only [go_sem, ↓reduceIte, reduceCtorEq, pappend, plen]; refine hK _ _ ?_; clear hK K
  (repeat refine PW.seq ?_); refine PW.rg rfl fun K hK => ?_; simp (maxSteps := 3000000) (disch := omega) only [go_sem, ↓reduceIte, reduceCtorEq, pappend, plen]; refine VCx.call (tk _ _ _ 16 1 (by omega) (by omega)) rfl ?_; simp (maxSteps := 3000000) (disch := omega) only [go_sem, ↓reduceIte, reduceCtorEq, pappend, plen]; refine hK _ _ ?_; clear hK K
  (repeat refine PW.seq ?_); refine PW.rg rfl fun K hK => ?_; simp (maxSteps := 3000000) (disch := omega) only [go_sem, ↓reduceIte, reduceCtorEq, pappend, plen]; refine hK _ _ ?_; clear hK K
  (repeat refine PW.seq ?_); refine PW.rg rfl fun K hK => ?_; simp (maxSteps := 3000000) (disch := omega) only [go_sem, ↓reduceIte, reduceCtorEq, pappend, plen]; refine VCx.call (codd_ref (hdr q) _) rfl ?_; simp (maxSteps := 3000000) (disch := omega) only [go_sem, ↓reduceIte, reduceCtorEq, pappend, plen]; refine hK _ _ ?_; clear hK K
  (repeat refine PW.seq ?_); refine PW.cond (t := _) rfl (fun h => ?_) (fun h => ?_)
  · have h2 : codd (hdr q) = false := by simpa using h
    (repeat refine PW.seq ?_); refine PW.rg rfl fun K hK => ?_; simp (maxSteps := 3000000) (disch := omega) only [go_sem, ↓reduceIte, reduceCtorEq, pappend, plen]; refine hK _ _ ?_; clear hK K
    refine PW.ret ⟨.tup [.agg [.int .i64 0, .int .i64 0, .int .i64 0, .bool false, .bool false, .bool false], .int .i64 3], by simp (maxSteps := 3000000) (disch := omega) only [go_sem, ↓reduceIte, reduceCtorEq, pappend, plen, presults, presult, List.mapM_cons, List.mapM_nil, Option.pure_def, Option.bind_eq_bind, Option.bind_some, Array.toList], ?_⟩
    have : r = (pi0, 3) := by rw [← hr, takeH, if_pos ⟨rfl, hb1, hb2, h17⟩, h2]; rfl
    rw [this]
    exact Fin.base (.id (pe_scoped _ pi0 3))
  have h2 : codd (hdr q) = true := by simpa using h
  refine PW.skip ?_
  (repeat refine PW.seq ?_); refine PW.rg rfl fun K hK => ?_; simp (maxSteps := 3000000) (disch := omega) only [go_sem, ↓reduceIte, reduceCtorEq, pappend, plen]; refine hK _ _ ?_; clear hK K
  refine PW.ret ⟨.tup [.agg [.int .i64 (vl q 10 2 : Int), .int .i64 (vl q 12 2 : Int), .int .i64 (vl q 0 10 : Int), .bool ((vl q 14 1 : Int) == 1), .bool ((vl q 15 1 : Int) == 1), .bool ((vl q 16 1 : Int) == 1)], .int .i64 0], by simp (maxSteps := 3000000) (disch := omega) only [go_sem, ↓reduceIte, reduceCtorEq, pappend, plen, presults, presult, List.mapM_cons, List.mapM_nil, Option.pure_def, Option.bind_eq_bind, Option.bind_some, Array.toList], ?_⟩
  have : r = (hdr q, 0) := by rw [← hr, takeH, if_pos ⟨rfl, hb1, hb2, h17⟩, h2]; rfl
  rw [this]
  exact Fin.base (.id (pe_scoped _ (hdr q) 0))

end Go.Proofs.YtnnkohejhnjflaaGreatDoor.Sc
