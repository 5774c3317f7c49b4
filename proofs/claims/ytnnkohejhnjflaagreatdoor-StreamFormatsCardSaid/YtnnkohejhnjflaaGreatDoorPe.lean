/-
  Contracts of chapter 11: TakeHeader, the program's.
-/
import Derived.Test.YtnnkohejhnjflaaGreatDoorPd
import Derived.Test.YtnnkohejhnjflaaGreatDoorBp
namespace Go.Proofs.YtnnkohejhnjflaaGreatDoor.Sc
set_option linter.all false
set_option linter.unusedVariables false
set_option linter.unusedSimpArgs false
open Pm Ty Go.RowKit

theorem tk1_ok (c i : Nat) (p : List UInt8) (n a m : Nat) (H : Heap) (hC : H[c]? = some ⟨88, 0, [.ptr i 0 0]⟩) (hA : H[i]? = some (rA p n a)) (ha : a + m ≤ n) (hn : n ≤ 8 * p.length) (hp : p.length ≤ 100000000) (hm : m ≤ 32) :
    CallOk Tryz.prog 135 [.int .i64 (m : Int), .ptr c 0 0] H (.int .i64 (vl p a m : Int)) (H.set i (rA p n (a + m))) := by
  have hv : vl p a m < 4294967296 := by
    have h1 := vl_lt p a m
    have : 2 ^ m ≤ 2 ^ 32 := Nat.pow_le_pow_right (by omega) hm
    omega
  refine CallOk.body (F0 := [(0, .int .i64 (m : Int)), (1, .ptr c 0 0)]) Tryz.func135 rfl Tryz.ntmps135 Tryz.results135 rfl (by kernel_rfl) rfl ?_
  (repeat refine PW.seq ?_); refine PW.rg rfl fun K hK => ?_; simp (maxSteps := 3000000) (disch := omega) only [go_sem, ↓reduceIte, reduceCtorEq, pappend, plen]; refine hK _ _ ?_; clear hK K
  (repeat refine PW.seq ?_); refine PW.rg rfl fun K hK => ?_; simp (maxSteps := 3000000) (disch := omega) only [go_sem, ↓reduceIte, reduceCtorEq, pappend, plen, hC]; refine VCx.call (rtake_ok i p n a m H hA ha hn hp hm) rfl ?_; simp (maxSteps := 3000000) (disch := omega) only [go_sem, ↓reduceIte, reduceCtorEq, pappend, plen, hC]; refine hK _ _ ?_; clear hK K
  (repeat refine PW.seq ?_); refine PW.rg rfl fun K hK => ?_; simp (maxSteps := 3000000) (disch := omega) only [go_sem, ↓reduceIte, reduceCtorEq, pappend, plen]; refine hK _ _ ?_; clear hK K
  exact PW.ret ⟨_, rfl, Fin.now⟩

/-- A header as the reader gives it; what TakeHeader answers. -/
def hdr (q : List UInt8) : Pi := ⟨(vl q 10 2 : Int), (vl q 12 2 : Int), (vl q 0 10 : Int), (vl q 14 1 : Int) == 1, (vl q 15 1 : Int) == 1, (vl q 16 1 : Int) == 1⟩
def pi0 : Pi := ⟨0, 0, 0, false, false, false⟩
def takeH (t : Int) (q : List UInt8) : Pi × Int := if t = 181 ∧ q.length ≠ 0 ∧ lastB q ≠ 0 ∧ nb q = 17 then (if codd (hdr q) then (hdr q, 0) else (pi0, 3)) else (pi0, 3)

theorem pe_scoped (n : Nat) (p : Pi) (e : Int) : Scoped n (.tup [.agg (pic p), .int .i64 e]) := .tup (all_scoped fun x hx => by
  simp only [List.mem_cons, List.not_mem_nil, or_false] at hx
  rcases hx with rfl | rfl
  · refine ag_scoped fun x hx => ?_
    simp only [pic, List.mem_cons, List.not_mem_nil, or_false] at hx
    rcases hx with rfl | rfl | rfl | rfl | rfl | rfl
    · exact .int _ _
    · exact .int _ _
    · exact .int _ _
    · exact .bool _
    · exact .bool _
    · exact .bool _
  · exact .int _ _)
theorem takeH_ok (t : Int) (q : List UInt8) (f : Bool) (hq : q.length ≤ 1000000) (H : Heap) : CallOk Tryz.prog 112 [.agg [.int .i64 t, .slice (bs q) q.length f]] H (.tup [.agg (pic (takeH t q).1), .int .i64 (takeH t q).2]) H := by
  generalize hr : takeH t q = r
  refine CallOk.body (F0 := [(0, .agg [.int .i64 t, .slice (bs q) q.length f])]) Tryz.func112 rfl Tryz.ntmps112 Tryz.results112 rfl (by kernel_rfl) rfl ?_
  (repeat refine PW.seq ?_); refine PW.rg rfl fun K hK => ?_; simp (maxSteps := 3000000) (disch := omega) only [go_sem, ↓reduceIte, reduceCtorEq, pappend, plen]; refine hK _ _ ?_; clear hK K
  (repeat refine PW.seq ?_); refine PW.rg rfl fun K hK => ?_; simp (maxSteps := 3000000) (disch := omega) only [go_sem, ↓reduceIte, reduceCtorEq, pappend, plen]; refine hK _ _ ?_; clear hK K
  (repeat refine PW.seq ?_); refine PW.cond (t := _) rfl (fun h => ?_) (fun h => ?_)
  · have h1 : t ≠ 181 := by simpa using h
    (repeat refine PW.seq ?_); refine PW.rg rfl fun K hK => ?_; simp (maxSteps := 3000000) (disch := omega) only [go_sem, ↓reduceIte, reduceCtorEq, pappend, plen]; refine hK _ _ ?_; clear hK K
    refine PW.ret ⟨.tup [.agg [.int .i64 0, .int .i64 0, .int .i64 0, .bool false, .bool false, .bool false], .int .i64 3], by simp (maxSteps := 3000000) (disch := omega) only [go_sem, ↓reduceIte, reduceCtorEq, pappend, plen, presults, presult, List.mapM_cons, List.mapM_nil, Option.pure_def, Option.bind_eq_bind, Option.bind_some, Array.toList], ?_⟩
    have : r = (pi0, 3) := by rw [← hr, takeH, if_neg (by simp [h1])]
    rw [this]
    exact Fin.base (.id (pe_scoped _ pi0 3))
  have h1 : t = 181 := by simpa using h
  subst h1
  refine PW.skip ?_
  by_cases hb : q.length = 0 ∨ lastB q = 0
  · (repeat refine PW.seq ?_); refine PW.rg rfl fun K hK => ?_; simp (maxSteps := 3000000) (disch := omega) only [go_sem, ↓reduceIte, reduceCtorEq, pappend, plen]; refine VCx.call (newr_bad q f _ (by omega) hb) rfl ?_; simp (maxSteps := 3000000) (disch := omega) only [go_sem, ↓reduceIte, reduceCtorEq, pappend, plen]; refine hK _ _ ?_; clear hK K
    (repeat refine PW.seq ?_); refine PW.rg rfl fun K hK => ?_; simp (maxSteps := 3000000) (disch := omega) only [go_sem, ↓reduceIte, reduceCtorEq, pappend, plen]; refine hK _ _ ?_; clear hK K
    (repeat refine PW.seq ?_); refine PW.cond (t := _) rfl (fun h => ?_) (fun h => ?_)
    · (repeat refine PW.seq ?_); refine PW.rg rfl fun K hK => ?_; simp (maxSteps := 3000000) (disch := omega) only [go_sem, ↓reduceIte, reduceCtorEq, pappend, plen]; refine hK _ _ ?_; clear hK K
      refine PW.ret ⟨.tup [.agg [.int .i64 0, .int .i64 0, .int .i64 0, .bool false, .bool false, .bool false], .int .i64 3], by simp (maxSteps := 3000000) (disch := omega) only [go_sem, ↓reduceIte, reduceCtorEq, pappend, plen, presults, presult, List.mapM_cons, List.mapM_nil, Option.pure_def, Option.bind_eq_bind, Option.bind_some, Array.toList], ?_⟩
      have : r = (pi0, 3) := by rw [← hr, takeH, if_neg (by omega)]
      rw [this]
      exact Fin.base (.id (pe_scoped _ pi0 3))
    · cases h
  have hb1 : q.length ≠ 0 := fun e => hb (.inl e)
  have hb2 : lastB q ≠ 0 := fun e => hb (.inr e)
  obtain ⟨n1, n2, n3⟩ := nb_one q hb1 hb2
  (repeat refine PW.seq ?_); refine PW.rg rfl fun K hK => ?_; simp (maxSteps := 3000000) (disch := omega) only [go_sem, ↓reduceIte, reduceCtorEq, pappend, plen]; refine VCx.call (newr_ok q f _ (by omega) hb1 hb2) rfl ?_; simp (maxSteps := 3000000) (disch := omega) only [go_sem, ↓reduceIte, reduceCtorEq, pappend, plen]; refine hK _ _ ?_; clear hK K
  (repeat refine PW.seq ?_); refine PW.rg rfl fun K hK => ?_; simp (maxSteps := 3000000) (disch := omega) only [go_sem, ↓reduceIte, reduceCtorEq, pappend, plen]; refine VCx.call (rleft_ok (H.length + 3) q (nb q) 0 _ (hp3 _ _ _ _ _ _) (by omega) (by omega)) rfl ?_; simp (maxSteps := 3000000) (disch := omega) only [go_sem, ↓reduceIte, reduceCtorEq, pappend, plen]; refine hK _ _ ?_; clear hK K
  (repeat refine PW.seq ?_); refine PW.cond (t := _) rfl (fun h => ?_) (fun h => ?_)
  · have h17 : nb q ≠ 17 := by simp at h; omega
    (repeat refine PW.seq ?_); refine PW.rg rfl fun K hK => ?_; simp (maxSteps := 3000000) (disch := omega) only [go_sem, ↓reduceIte, reduceCtorEq, pappend, plen]; refine hK _ _ ?_; clear hK K
    refine PW.ret ⟨.tup [.agg [.int .i64 0, .int .i64 0, .int .i64 0, .bool false, .bool false, .bool false], .int .i64 3], by simp (maxSteps := 3000000) (disch := omega) only [go_sem, ↓reduceIte, reduceCtorEq, pappend, plen, presults, presult, List.mapM_cons, List.mapM_nil, Option.pure_def, Option.bind_eq_bind, Option.bind_some, Array.toList], ?_⟩
    have : r = (pi0, 3) := by rw [← hr, takeH, if_neg (by simp [h17])]
    rw [this]
    exact Fin.base (.id (pe_scoped _ pi0 3))
  have h17 : nb q = 17 := by simp at h; omega
  refine PW.skip ?_
  rw [h17]
  (repeat refine PW.seq ?_); refine PW.rg rfl fun K hK => ?_; simp (maxSteps := 3000000) (disch := omega) only [go_sem, ↓reduceIte, reduceCtorEq, pappend, plen]; refine hK _ _ ?_; clear hK K
  have tk := fun (U P D : Blk) (K : Heap) (a m : Nat) (ha : a + m ≤ 17) (hm : m ≤ 32) => tk1_ok (H.length + 4) (H.length + 3) q 17 a m (H ++ U :: P :: D :: rA q 17 a :: ⟨88, 0, [.ptr (H.length + 3) 0 0]⟩ :: K) (hp4 _ _ _ _ _ _ _) (hp3 _ _ _ _ _ _) ha (by omega) (by omega) hm
  simp only [hs3] at tk
  (repeat refine PW.seq ?_); refine PW.rg rfl fun K hK => ?_; simp (maxSteps := 3000000) (disch := omega) only [go_sem, ↓reduceIte, reduceCtorEq, pappend, plen]; refine VCx.call (tk _ _ _ _ 0 10 (by omega) (by omega)) rfl ?_; simp (maxSteps := 3000000) (disch := omega) only [go_sem, ↓reduceIte, reduceCtorEq, pappend, plen]; refine VCx.call (tk _ _ _ _ 10 2 (by omega) (by omega)) rfl ?_; simp (maxSteps := 3000000) (disch := omega) only [go_sem, ↓reduceIte, reduceCtorEq, pappend, plen]; refine VCx.call (tk _ _ _ _ 12 2 (by omega) (by omega)) rfl ?_; simp (maxSteps := 3000000) (disch := omega) only [go_sem, ↓reduceIte, reduceCtorEq, pappend, plen]; refine hK _ _ ?_; clear hK K
  (repeat refine PW.seq ?_); refine PW.rg rfl fun K hK => ?_; simp (maxSteps := 3000000) (disch := omega) only [go_sem, ↓reduceIte, reduceCtorEq, pappend, plen]; refine VCx.call (tk _ _ _ _ 14 1 (by omega) (by omega)) rfl ?_; simp (maxSteps := 3000000) (disch := omega) only [go_sem, ↓reduceIte, reduceCtorEq, pappend, plen]; refine hK _ _ ?_; clear hK K
  (repeat refine PW.seq ?_); refine PW.rg rfl fun K hK => ?_; simp (maxSteps := 3000000) (disch := omega) only [go_sem, ↓reduceIte, reduceCtorEq, pappend, plen]; refine VCx.call (tk _ _ _ _ 15 1 (by omega) (by omega)) rfl ?_; simp (maxSteps := 3000000) (disch := omega) only [go_sem, ↓reduceIte, reduceCtorEq, pappend, plen]; refine hK _ _ ?_; clear hK K
  (repeat refine PW.seq ?_); refine PW.rg rfl fun K hK => ?_; simp (maxSteps := 3000000) (disch := omega) only [go_sem, ↓reduceIte, reduceCtorEq, pappend, plen]; refine VCx.call (tk _ _ _ _ 16 1 (by omega) (by omega)) rfl ?_; simp (maxSteps := 3000000) (disch := omega) only [go_sem, ↓reduceIte, reduceCtorEq, pappend, plen]; refine hK _ _ ?_; clear hK K
  (repeat refine PW.seq ?_); refine PW.rg rfl fun K hK => ?_; simp (maxSteps := 3000000) (disch := omega) only [go_sem, ↓reduceIte, reduceCtorEq, pappend, plen]; refine VCx.call (codd_ok (hdr q) _) rfl ?_; simp (maxSteps := 3000000) (disch := omega) only [go_sem, ↓reduceIte, reduceCtorEq, pappend, plen]; refine hK _ _ ?_; clear hK K
  (repeat refine PW.seq ?_); refine PW.cond (t := _) rfl (fun h => ?_) (fun h => ?_)
  · have h2 : codd (hdr q) = false := by simpa using h
    (repeat refine PW.seq ?_); refine PW.rg rfl fun K hK => ?_; simp (maxSteps := 3000000) (disch := omega) only [go_sem, ↓reduceIte, reduceCtorEq, pappend, plen]; refine hK _ _ ?_; clear hK K
    refine PW.ret ⟨.tup [.agg [.int .i64 0, .int .i64 0, .int .i64 0, .bool false, .bool false, .bool false], .int .i64 3], by simp (maxSteps := 3000000) (disch := omega) only [go_sem, ↓reduceIte, reduceCtorEq, pappend, plen, presults, presult, List.mapM_cons, List.mapM_nil, Option.pure_def, Option.bind_eq_bind, Option.bind_some, Array.toList], ?_⟩
    have : r = (pi0, 3) := by rw [← hr, takeH, if_pos ⟨rfl, hb1, hb2, h17⟩, h2]; rfl
    rw [this]
    exact Fin.base (.id (pe_scoped _ pi0 3))
  have h2 : codd (hdr q) = true := by simpa using h
  refine PW.skip ?_
  (repeat refine PW.seq ?_); refine PW.rg rfl fun K hK => ?_; simp (maxSteps := 3000000) (disch := omega) only [go_sem, ↓reduceIte, reduceCtorEq, pappend, plen]; refine hK _ _ ?_; clear hK K
  refine PW.ret ⟨.tup [.agg [.int .i64 (vl q 10 2 : Int), .int .i64 (vl q 12 2 : Int), .int .i64 (vl q 0 10 : Int), .bool ((vl q 14 1 : Int) == 1), .bool ((vl q 15 1 : Int) == 1), .bool ((vl q 16 1 : Int) == 1)], .int .i64 0], by simp (maxSteps := 3000000) (disch := omega) only [go_sem, ↓reduceIte, reduceCtorEq, pappend, plen, presults, presult, List.mapM_cons, List.mapM_nil, Option.pure_def, Option.bind_eq_bind, Option.bind_some, Array.toList], ?_⟩
  have : r = (hdr q, 0) := by rw [← hr, takeH, if_pos ⟨rfl, hb1, hb2, h17⟩, h2]; rfl
  rw [this]
  exact Fin.base (.id (pe_scoped _ (hdr q) 0))

end Go.Proofs.YtnnkohejhnjflaaGreatDoor.Sc
