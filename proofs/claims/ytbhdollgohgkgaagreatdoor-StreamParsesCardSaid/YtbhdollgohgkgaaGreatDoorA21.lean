/-
  Parts of the proof. No condition.
-/
import Derived.Test.YtbhdollgohgkgaaGreatDoorA19
import Derived.Test.YtbhdollgohgkgaaGreatDoorA20
namespace Go.Proofs.YtbhdollgohgkgaaGreatDoor.Sc
set_option linter.all false
set_option linter.unusedVariables false
set_option linter.unusedSimpArgs false
open Pm Ty S3 Go.RowKit

/-! ### the parser in memory -/
def prB (j N : Nat) (np : Int) (op : Bool) : Blk := ⟨39, 0, [.msl (j + 1) (N * 148) 0 N 148 true, .int .i64 np, .bool op]⟩
def imB (N : Nat) (C : List PV) : Blk := ⟨61, N * 148, C⟩
def mU (j n : Nat) : PV := .msl (j + 2) n 0 n 1 true
def mS (j n : Nat) : PV := .msl (j + 3) (n * 2) 0 n 2 true
def ucB (n : Nat) (C : List PV) : Blk := ⟨22, n, C⟩
def scB (us : List (Int × List UInt8)) : Blk := ⟨41, us.length * 2, uq us⟩
def usT (u : List UInt8) : PV := .slice (bs u) u.length true
theorem usB_iff (q : List UInt8) : usB q = true ↔ 0 < q.length ∧ q.length ≤ 257 ∧ byt q (q.length - 1) = 128 := by
  unfold usB
  simp only [Bool.and_eq_true, decide_eq_true_eq, beq_iff_eq]

set_option maxHeartbeats 8000000 in
set_option maxRecDepth 100000 in
theorem user_ok (A : Heap) (pre : List It) (x : It) (np : Int) (q : List UInt8) (f : Bool) (S k1 k2 : Blk) (b : PV) (hx : SqOk x.s) (hp : ∀ y ∈ pre, SqOk y.s) (hn : pre.length ≤ 2000000) (hU : x.U.length ≤ 2000000) (hq : q.length ≤ 2000000) :
    CallOk Tryz.prog 25 [.ptr A.length 0 0, .slice (bs q) q.length f]
      (A ++ [prB A.length (pre.length + 1) np true, imB (pre.length + 1) (itL pre ++ itq x (mU A.length x.U.length) b), ucB x.U.length (x.U.flatMap usr1), S, k1, k2]) (.bool (usB q))
      (if usB q then A ++ [prB A.length (pre.length + 1) np true, imB (pre.length + 1) (itL pre ++ itq x (mU A.length (x.U.length + 1)) b), ucB (x.U.length + 1) (x.U.flatMap usr1 ++ [usT (q.take (q.length - 1))]), S, k1, k2]
        else A ++ [prB A.length (pre.length + 1) np true, imB (pre.length + 1) (itL pre ++ itq x (mU A.length x.U.length) b), ucB x.U.length (x.U.flatMap usr1), S, k1, k2]) := by
  have F := iqF pre x (mU A.length x.U.length) b hp hx
  have eN : ((pre.length + 1 : Nat) : Int) - 1 = (pre.length : Int) := by omega
  have ul := usr_l x.U
  refine CallOk.body (F0 := [(0, .ptr A.length 0 0), (1, .slice (bs q) q.length f)]) Tryz.func25 rfl Tryz.ntmps25 Tryz.results25 rfl (by kernel_rfl) rfl ?_
  (repeat refine PW.seq ?_); refine PW.rg rfl fun K hK => ?_; simp (maxSteps := 3000000) (disch := omega) only [go_sem, ↓reduceIte, reduceCtorEq, pappend, plen]; refine hK _ _ ?_; clear hK K
  (repeat refine PW.seq ?_); refine PW.rg rfl fun K hK => ?_; simp (maxSteps := 3000000) (disch := omega) only [go_sem, ↓reduceIte, reduceCtorEq, pappend, plen, length_bs]; refine hK _ _ ?_; clear hK K
  suffices hm : PW Tryz.prog _ _ [(0, .ptr A.length 0 0), (1, .slice (bs q) q.length f), (5, .int .i64 ((q.length : Int) - 1)), (29, .bool (!usB q))] (A ++ [prB A.length (pre.length + 1) np true, imB (pre.length + 1) (itL pre ++ itq x (mU A.length x.U.length) b), ucB x.U.length (x.U.flatMap usr1), S, k1, k2]) _ by
    by_cases h1 : 0 < q.length
    rotate_left
    · have e : usB q = false := by cases hu : usB q with | false => rfl | true => exact absurd ((usB_iff q).1 hu).1 h1
      have d1 : decide ((q.length : Int) - 1 < 0) = true := decide_eq_true (by omega)
      (repeat refine PW.seq ?_); refine PW.rg rfl fun K hK => ?_; simp (maxSteps := 3000000) (disch := omega) only [go_sem, ↓reduceIte, reduceCtorEq, pappend, plen, prB, d1]; refine hK _ _ ?_; clear hK K
      exact PW.at [0, 1, 5, 29] hm (by rw [e]; rfl) rfl
    have d1 : decide ((q.length : Int) - 1 < 0) = false := decide_eq_false (by omega)
    by_cases h2 : q.length ≤ 257
    rotate_left
    · have e : usB q = false := by cases hu : usB q with | false => rfl | true => exact absurd ((usB_iff q).1 hu).2.1 h2
      have d2 : decide (256 < (q.length : Int) - 1) = true := decide_eq_true (by omega)
      (repeat refine PW.seq ?_); refine PW.rg rfl fun K hK => ?_; simp (maxSteps := 3000000) (disch := omega) only [go_sem, ↓reduceIte, reduceCtorEq, pappend, plen, prB, d1, d2]; refine hK _ _ ?_; clear hK K
      exact PW.at [0, 1, 5, 29] hm (by rw [e]; rfl) rfl
    have d2 : decide (256 < (q.length : Int) - 1) = false := decide_eq_false (by omega)
    have e5 : (q.length : Int) - 1 = ((q.length - 1 : Nat) : Int) := by omega
    by_cases h3 : byt q (q.length - 1) = 128
    · have e : usB q = true := (usB_iff q).2 ⟨h1, h2, h3⟩
      have d3 : (byt q (q.length - 1) != 128) = false := by simp [h3]
      rw [e5] at d1 d2
      (repeat refine PW.seq ?_); refine PW.rg rfl fun K hK => ?_; simp (maxSteps := 3000000) (disch := omega) only [go_sem, ↓reduceIte, reduceCtorEq, pappend, plen, prB, e5, d1, d2, d3, length_bs, bs_get]; refine hK _ _ ?_; clear hK K
      exact PW.at [0, 1, 5, 29] hm (by rw [e, e5]; rfl) rfl
    · have e : usB q = false := by cases hu : usB q with | false => rfl | true => exact absurd ((usB_iff q).1 hu).2.2 h3
      have d3 : (byt q (q.length - 1) != 128) = true := by simpa using h3
      rw [e5] at d1 d2
      (repeat refine PW.seq ?_); refine PW.rg rfl fun K hK => ?_; simp (maxSteps := 3000000) (disch := omega) only [go_sem, ↓reduceIte, reduceCtorEq, pappend, plen, prB, e5, d1, d2, d3, length_bs, bs_get]; refine hK _ _ ?_; clear hK K
      exact PW.at [0, 1, 5, 29] hm (by rw [e, e5]; rfl) rfl
  cases hu : usB q with
  | false =>
    (repeat refine PW.seq ?_); refine PW.cond (t := _) rfl (fun h => ?_) (fun h => ?_)
    rotate_left
    · cases h
    (repeat refine PW.seq ?_); refine PW.rg rfl fun K hK => ?_; simp (maxSteps := 3000000) (disch := omega) only [go_sem, ↓reduceIte, reduceCtorEq, pappend, plen]; refine hK _ _ ?_; clear hK K
    refine PW.ret ⟨.bool false, by simp (maxSteps := 3000000) (disch := omega) only [go_sem, ↓reduceIte, reduceCtorEq, pappend, plen, presults, presult, List.mapM_cons, List.mapM_nil, Option.pure_def, Option.bind_eq_bind, Option.bind_some, Array.toList], ?_⟩
    exact Fin.now
  | true =>
    (repeat refine PW.seq ?_); refine PW.cond (t := _) rfl (fun h => ?_) (fun h => ?_)
    · cases h
    refine PW.skip ?_
    obtain ⟨h1, h2, h3⟩ := (usB_iff q).1 hu
    have e5 : (q.length : Int) - 1 = ((q.length - 1 : Nat) : Int) := by omega
    have eT : List.take (q.length - 1) (bs q) = bs (q.take (q.length - 1)) := by simp [bs]
    have eL : (q.take (q.length - 1)).length = q.length - 1 := by simp
    rw [e5]
    have fu : (itL pre ++ itq x (.msl (A.length + 2) x.U.length 0 x.U.length 1 true) b)[pre.length * 148 + 139 + 6]? = some (.msl (A.length + 2) x.U.length 0 x.U.length 1 true) := F.u
    have fs : ∀ v, (itL pre ++ itq x (.msl (A.length + 2) x.U.length 0 x.U.length 1 true) b).set (pre.length * 148 + 139 + 6) v = itL pre ++ itq x v b := F.su
    have fl : (itL pre ++ itq x (.msl (A.length + 2) x.U.length 0 x.U.length 1 true) b).length = (pre.length + 1) * 148 := F.ln
    (repeat refine PW.seq ?_); refine PW.drawg mix (by kernel_rfl) fun K hK => ?_; simp (maxSteps := 3000000) (disch := omega) only [go_sem, ↓reduceIte, reduceCtorEq, pappend, plen, prB, imB, eN, F.ln]; refine hK _ _ ?_; clear hK K
    (repeat refine PW.seq ?_); refine PW.drawi [A.length + 1, A.length + 2] [(6, [0]), (42, [0]), (43, [0]), (44, [0]), (45, [0]), (53, [0]), (54, [0]), (46, [1]), (52, [1])] [] [] mix (by kernel_rfl) (by simp <;> omega) fun K hK => ?_
    simp (maxSteps := 3000000) (disch := omega) only [go_sem, ↓reduceIte, reduceCtorEq, pappend, plen, prB, imB, ucB, mU, fl, fu, fs, ul, length_bs, eT, Option.toArray_none, Option.toArray_some]
    refine hK _ _ ?_; clear hK K
    (repeat refine PW.seq ?_); refine PW.rg rfl fun K hK => ?_; simp (maxSteps := 3000000) (disch := omega) only [go_sem, ↓reduceIte, reduceCtorEq, pappend, plen]; refine hK _ _ ?_; clear hK K
    refine PW.ret ⟨.bool true, by simp (maxSteps := 3000000) (disch := omega) only [go_sem, ↓reduceIte, reduceCtorEq, pappend, plen, presults, presult, List.mapM_cons, List.mapM_nil, Option.pure_def, Option.bind_eq_bind, Option.bind_some, Array.toList], ?_⟩
    rw [if_pos rfl, Nat.sub_zero, eT, List.length_append, ul]
    refine .inl ⟨rfl, ?_⟩
    unfold prB imB ucB mU usT
    rw [eL]; rfl

end Go.Proofs.YtbhdollgohgkgaaGreatDoor.Sc
