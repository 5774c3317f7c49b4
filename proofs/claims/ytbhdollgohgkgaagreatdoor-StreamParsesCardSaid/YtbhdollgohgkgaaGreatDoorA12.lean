/-
  Parts of the proof. No condition.
-/
import Derived.Test.YtbhdollgohgkgaaGreatDoorA07
import Derived.Test.YtbhdollgohgkgaaGreatDoorA08
namespace Go.Proofs.YtbhdollgohgkgaaGreatDoor.Sc
set_option linter.all false
set_option linter.unusedVariables false
set_option linter.unusedSimpArgs false
open Pm Ty Go.RowKit

def hbits (p : Pi) : List Bool := vbits p.od.toNat 10 ++ vbits p.ty.toNat 2 ++ vbits p.st.toNat 2 ++ [p.tf, p.rp, p.al]
/-- A unit as a value. -/
def uv (t : Int) (q : List UInt8) : PV := .agg [.int .i64 t, .slice (bs q) q.length false]
theorem all_scoped {n : Nat} {xs : List PV} (h : ∀ x ∈ xs, Scoped n x) : ∀ (j : Nat) (x : PV), xs[j]? = some x → Scoped n x := fun j x hx => h x (List.mem_of_getElem? hx)
theorem uv_scoped (n : Nat) (t : Int) (q : List UInt8) : Scoped n (uv t q) := ag_scoped fun x hx => by
  simp only [List.mem_cons, List.not_mem_nil, or_false] at hx
  rcases hx with rfl | rfl
  · exact .int _ _
  · exact sl_scoped (bs_scoped _ _)
theorem uve_scoped (n : Nat) (t : Int) (q : List UInt8) (e : Int) : Scoped n (.tup [uv t q, .int .i64 e]) := .tup (all_scoped fun x hx => by
  simp only [List.mem_cons, List.not_mem_nil, or_false] at hx
  rcases hx with rfl | rfl
  · exact uv_scoped _ _ _
  · exact .int _ _)
theorem vbits1 (b : Bool) : vbits (if b then 1 else 0) 1 = [b] := by cases b <;> rfl
theorem wA0 (j : Nat) : wA j [] = ⟨167, 0, [.msl j 0 0 0 1 true, .int .i64 0]⟩ := rfl
theorem wB0 : wB [] = ⟨5, 0, []⟩ := rfl

end Go.Proofs.YtbhdollgohgkgaaGreatDoor.Sc

namespace Go.Proofs.YtbhdollgohgkgaaGreatDoor.Sc
set_option linter.all false
set_option linter.unusedVariables false
set_option linter.unusedSimpArgs false
open Pm Ty Go.RowKit

theorem tk1_ok (c i : Nat) (p : List UInt8) (n a m : Nat) (H : Heap) (hC : H[c]? = some ⟨127, 0, [.ptr i 0 0]⟩) (hA : H[i]? = some (rA p n a)) (ha : a + m ≤ n) (hn : n ≤ 8 * p.length) (hp : p.length ≤ 100000000) (hm : m ≤ 32) :
    CallOk Tryz.prog 79 [.int .i64 (m : Int), .ptr c 0 0] H (.int .i64 (vl p a m : Int)) (H.set i (rA p n (a + m))) := by
  have hv : vl p a m < 4294967296 := by
    have h1 := vl_lt p a m
    have : 2 ^ m ≤ 2 ^ 32 := Nat.pow_le_pow_right (by omega) hm
    omega
  refine CallOk.body (F0 := [(0, .int .i64 (m : Int)), (1, .ptr c 0 0)]) Tryz.func79 rfl Tryz.ntmps79 Tryz.results79 rfl (by kernel_rfl) rfl ?_
  (repeat refine PW.seq ?_); refine PW.rg rfl fun K hK => ?_; simp (maxSteps := 3000000) (disch := omega) only [go_sem, ↓reduceIte, reduceCtorEq, pappend, plen]; refine hK _ _ ?_; clear hK K
  (repeat refine PW.seq ?_); refine PW.rg rfl fun K hK => ?_; simp (maxSteps := 3000000) (disch := omega) only [go_sem, ↓reduceIte, reduceCtorEq, pappend, plen, hC]; refine VCx.call (rtake_ok i p n a m H hA ha hn hp hm) rfl ?_; simp (maxSteps := 3000000) (disch := omega) only [go_sem, ↓reduceIte, reduceCtorEq, pappend, plen, hC]; refine hK _ _ ?_; clear hK K
  (repeat refine PW.seq ?_); refine PW.rg rfl fun K hK => ?_; simp (maxSteps := 3000000) (disch := omega) only [go_sem, ↓reduceIte, reduceCtorEq, pappend, plen]; refine hK _ _ ?_; clear hK K
  exact PW.ret ⟨_, rfl, Fin.now⟩

/-- A header as the reader gives it; what TakeHeader answers. -/
def hdr (q : List UInt8) : Pi := ⟨(vl q 10 2 : Int), (vl q 12 2 : Int), (vl q 0 10 : Int), (vl q 14 1 : Int) == 1, (vl q 15 1 : Int) == 1, (vl q 16 1 : Int) == 1⟩
def pi0 : Pi := ⟨0, 0, 0, false, false, false⟩
def takeH (t : Int) (q : List UInt8) : Pi × Int := if t = 181 ∧ q.length ≠ 0 ∧ lastB q ≠ 0 ∧ nb q = 17 then (if codd (hdr q) then (hdr q, 0) else (pi0, 3)) else (pi0, 3)

theorem pe_scoped (n : Nat) (p : Pi) (e : Int) : Scoped n (.tup [.agg (pic p), .int .i64 e]) := .tup (all_scoped fun x hx => by
  simp only [List.mem_cons, List.not_mem_nil, or_false] at hx
  rcases hx with rfl | rfl
  · refine ag_scoped fun x hx => ?_
    simp only [pic, List.mem_cons, List.not_mem_nil, or_false] at hx
    rcases hx with rfl | rfl | rfl | rfl | rfl | rfl
    · exact .int _ _
    · exact .int _ _
    · exact .int _ _
    · exact .bool _
    · exact .bool _
    · exact .bool _
  · exact .int _ _)
theorem takeH_ok (t : Int) (q : List UInt8) (f : Bool) (hq : q.length ≤ 1000000) (H : Heap) : CallOk Tryz.prog 43 [.agg [.int .i64 t, .slice (bs q) q.length f]] H (.tup [.agg (pic (takeH t q).1), .int .i64 (takeH t q).2]) H := by
  generalize hr : takeH t q = r
  refine CallOk.body (F0 := [(0, .agg [.int .i64 t, .slice (bs q) q.length f])]) Tryz.func43 rfl Tryz.ntmps43 Tryz.results43 rfl (by kernel_rfl) rfl ?_
  (repeat refine PW.seq ?_); refine PW.rg rfl fun K hK => ?_; simp (maxSteps := 3000000) (disch := omega) only [go_sem, ↓reduceIte, reduceCtorEq, pappend, plen]; refine hK _ _ ?_; clear hK K
  (repeat refine PW.seq ?_); refine PW.rg rfl fun K hK => ?_; simp (maxSteps := 3000000) (disch := omega) only [go_sem, ↓reduceIte, reduceCtorEq, pappend, plen]; refine hK _ _ ?_; clear hK K
  (repeat refine PW.seq ?_); refine PW.cond (t := _) rfl (fun h => ?_) (fun h => ?_)
  · have h1 : t ≠ 181 := by simpa using h
    (repeat refine PW.seq ?_); refine PW.rg rfl fun K hK => ?_; simp (maxSteps := 3000000) (disch := omega) only [go_sem, ↓reduceIte, reduceCtorEq, pappend, plen]; refine hK _ _ ?_; clear hK K
    refine PW.ret ⟨.tup [.agg [.int .i64 0, .int .i64 0, .int .i64 0, .bool false, .bool false, .bool false], .int .i64 3], by simp (maxSteps := 3000000) (disch := omega) only [go_sem, ↓reduceIte, reduceCtorEq, pappend, plen, presults, presult, List.mapM_cons, List.mapM_nil, Option.pure_def, Option.bind_eq_bind, Option.bind_some, Array.toList], ?_⟩
    have : r = (pi0, 3) := by rw [← hr, takeH, if_neg (by simp [h1])]
    rw [this]
    exact Fin.base (.id (pe_scoped _ pi0 3))
  have h1 : t = 181 := by simpa using h
  subst h1
  refine PW.skip ?_
  by_cases hb : q.length = 0 ∨ lastB q = 0
  · (repeat refine PW.seq ?_); refine PW.rg rfl fun K hK => ?_; simp (maxSteps := 3000000) (disch := omega) only [go_sem, ↓reduceIte, reduceCtorEq, pappend, plen]; refine VCx.call (newr_bad q f _ (by omega) hb) rfl ?_; simp (maxSteps := 3000000) (disch := omega) only [go_sem, ↓reduceIte, reduceCtorEq, pappend, plen]; refine hK _ _ ?_; clear hK K
    (repeat refine PW.seq ?_); refine PW.rg rfl fun K hK => ?_; simp (maxSteps := 3000000) (disch := omega) only [go_sem, ↓reduceIte, reduceCtorEq, pappend, plen]; refine hK _ _ ?_; clear hK K
    (repeat refine PW.seq ?_); refine PW.cond (t := _) rfl (fun h => ?_) (fun h => ?_)
    · (repeat refine PW.seq ?_); refine PW.rg rfl fun K hK => ?_; simp (maxSteps := 3000000) (disch := omega) only [go_sem, ↓reduceIte, reduceCtorEq, pappend, plen]; refine hK _ _ ?_; clear hK K
      refine PW.ret ⟨.tup [.agg [.int .i64 0, .int .i64 0, .int .i64 0, .bool false, .bool false, .bool false], .int .i64 3], by simp (maxSteps := 3000000) (disch := omega) only [go_sem, ↓reduceIte, reduceCtorEq, pappend, plen, presults, presult, List.mapM_cons, List.mapM_nil, Option.pure_def, Option.bind_eq_bind, Option.bind_some, Array.toList], ?_⟩
      have : r = (pi0, 3) := by rw [← hr, takeH, if_neg (by omega)]
      rw [this]
      exact Fin.base (.id (pe_scoped _ pi0 3))
    · cases h
  have hb1 : q.length ≠ 0 := fun e => hb (.inl e)
  have hb2 : lastB q ≠ 0 := fun e => hb (.inr e)
  obtain ⟨n1, n2, n3⟩ := nb_one q hb1 hb2
  (repeat refine PW.seq ?_); refine PW.rg rfl fun K hK => ?_; simp (maxSteps := 3000000) (disch := omega) only [go_sem, ↓reduceIte, reduceCtorEq, pappend, plen]; refine VCx.call (newr_ok q f _ (by omega) hb1 hb2) rfl ?_; simp (maxSteps := 3000000) (disch := omega) only [go_sem, ↓reduceIte, reduceCtorEq, pappend, plen]; refine hK _ _ ?_; clear hK K
  (repeat refine PW.seq ?_); refine PW.rg rfl fun K hK => ?_; simp (maxSteps := 3000000) (disch := omega) only [go_sem, ↓reduceIte, reduceCtorEq, pappend, plen]; refine VCx.call (rleft_ok (H.length + 3) q (nb q) 0 _ (hp3 _ _ _ _ _ _) (by omega) (by omega)) rfl ?_; simp (maxSteps := 3000000) (disch := omega) only [go_sem, ↓reduceIte, reduceCtorEq, pappend, plen]; refine hK _ _ ?_; clear hK K
  (repeat refine PW.seq ?_); refine PW.cond (t := _) rfl (fun h => ?_) (fun h => ?_)
  · have h17 : nb q ≠ 17 := by simp at h; omega
    (repeat refine PW.seq ?_); refine PW.rg rfl fun K hK => ?_; simp (maxSteps := 3000000) (disch := omega) only [go_sem, ↓reduceIte, reduceCtorEq, pappend, plen]; refine hK _ _ ?_; clear hK K
    refine PW.ret ⟨.tup [.agg [.int .i64 0, .int .i64 0, .int .i64 0, .bool false, .bool false, .bool false], .int .i64 3], by simp (maxSteps := 3000000) (disch := omega) only [go_sem, ↓reduceIte, reduceCtorEq, pappend, plen, presults, presult, List.mapM_cons, List.mapM_nil, Option.pure_def, Option.bind_eq_bind, Option.bind_some, Array.toList], ?_⟩
    have : r = (pi0, 3) := by rw [← hr, takeH, if_neg (by simp [h17])]
    rw [this]
    exact Fin.base (.id (pe_scoped _ pi0 3))
  have h17 : nb q = 17 := by simp at h; omega
  refine PW.skip ?_
  rw [h17]
  (repeat refine PW.seq ?_); refine PW.rg rfl fun K hK => ?_; simp (maxSteps := 3000000) (disch := omega) only [go_sem, ↓reduceIte, reduceCtorEq, pappend, plen]; refine hK _ _ ?_; clear hK K
  have tk := fun (U P D : Blk) (K : Heap) (a m : Nat) (ha : a + m ≤ 17) (hm : m ≤ 32) => tk1_ok (H.length + 4) (H.length + 3) q 17 a m (H ++ U :: P :: D :: rA q 17 a :: ⟨127, 0, [.ptr (H.length + 3) 0 0]⟩ :: K) (hp4 _ _ _ _ _ _ _) (hp3 _ _ _ _ _ _) ha (by omega) (by omega) hm
  simp only [hs3] at tk
  (repeat refine PW.seq ?_); refine PW.rg rfl fun K hK => ?_; simp (maxSteps := 3000000) (disch := omega) only [go_sem, ↓reduceIte, reduceCtorEq, pappend, plen]; refine VCx.call (tk _ _ _ _ 0 10 (by omega) (by omega)) rfl ?_; simp (maxSteps := 3000000) (disch := omega) only [go_sem, ↓reduceIte, reduceCtorEq, pappend, plen]; refine VCx.call (tk _ _ _ _ 10 2 (by omega) (by omega)) rfl ?_; simp (maxSteps := 3000000) (disch := omega) only [go_sem, ↓reduceIte, reduceCtorEq, pappend, plen]; refine VCx.call (tk _ _ _ _ 12 2 (by omega) (by omega)) rfl ?_; simp (maxSteps := 3000000) (disch := omega) only [go_sem, ↓reduceIte, reduceCtorEq, pappend, plen]; refine hK _ _ ?_; clear hK K
  (repeat refine PW.seq ?_); refine PW.rg rfl fun K hK => ?_; simp (maxSteps := 3000000) (disch := omega) only [go_sem, ↓reduceIte, reduceCtorEq, pappend, plen]; refine VCx.call (tk _ _ _ _ 14 1 (by omega) (by omega)) rfl ?_; simp (maxSteps := 3000000) (disch := omega) only [go_sem, ↓reduceIte, reduceCtorEq, pappend, plen]; refine hK _ _ ?_; clear hK K
  (repeat refine PW.seq ?_); refine PW.rg rfl fun K hK => ?_; simp (maxSteps := 3000000) (disch := omega) only [go_sem, ↓reduceIte, reduceCtorEq, pappend, plen]; refine VCx.call (tk _ _ _ _ 15 1 (by omega) (by omega)) rfl ?_; simp (maxSteps := 3000000) (disch := omega) only [go_sem, ↓reduceIte, reduceCtorEq, pappend, plen]; refine hK _ _ ?_; clear hK K
  (repeat refine PW.seq ?_); refine PW.rg rfl fun K hK => ?_; simp (maxSteps := 3000000) (disch := omega) only [go_sem, ↓reduceIte, reduceCtorEq, pappend, plen]; refine VCx.call (tk _ _ _ _ 16 1 (by omega) (by omega)) rfl ?_; simp (maxSteps := 3000000) (disch := omega) only [go_sem, ↓reduceIte, reduceCtorEq, pappend, plen]; refine hK _ _ ?_; clear hK K
  (repeat refine PW.seq ?_); refine PW.rg rfl fun K hK => ?_; simp (maxSteps := 3000000) (disch := omega) only [go_sem, ↓reduceIte, reduceCtorEq, pappend, plen]; refine VCx.call (codd_ok (hdr q) _) rfl ?_; simp (maxSteps := 3000000) (disch := omega) only [go_sem, ↓reduceIte, reduceCtorEq, pappend, plen]; refine hK _ _ ?_; clear hK K
  (repeat refine PW.seq ?_); refine PW.cond (t := _) rfl (fun h => ?_) (fun h => ?_)
  · have h2 : codd (hdr q) = false := by simpa using h
    (repeat refine PW.seq ?_); refine PW.rg rfl fun K hK => ?_; simp (maxSteps := 3000000) (disch := omega) only [go_sem, ↓reduceIte, reduceCtorEq, pappend, plen]; refine hK _ _ ?_; clear hK K
    refine PW.ret ⟨.tup [.agg [.int .i64 0, .int .i64 0, .int .i64 0, .bool false, .bool false, .bool false], .int .i64 3], by simp (maxSteps := 3000000) (disch := omega) only [go_sem, ↓reduceIte, reduceCtorEq, pappend, plen, presults, presult, List.mapM_cons, List.mapM_nil, Option.pure_def, Option.bind_eq_bind, Option.bind_some, Array.toList], ?_⟩
    have : r = (pi0, 3) := by rw [← hr, takeH, if_pos ⟨rfl, hb1, hb2, h17⟩, h2]; rfl
    rw [this]
    exact Fin.base (.id (pe_scoped _ pi0 3))
  have h2 : codd (hdr q) = true := by simpa using h
  refine PW.skip ?_
  (repeat refine PW.seq ?_); refine PW.rg rfl fun K hK => ?_; simp (maxSteps := 3000000) (disch := omega) only [go_sem, ↓reduceIte, reduceCtorEq, pappend, plen]; refine hK _ _ ?_; clear hK K
  refine PW.ret ⟨.tup [.agg [.int .i64 (vl q 10 2 : Int), .int .i64 (vl q 12 2 : Int), .int .i64 (vl q 0 10 : Int), .bool ((vl q 14 1 : Int) == 1), .bool ((vl q 15 1 : Int) == 1), .bool ((vl q 16 1 : Int) == 1)], .int .i64 0], by simp (maxSteps := 3000000) (disch := omega) only [go_sem, ↓reduceIte, reduceCtorEq, pappend, plen, presults, presult, List.mapM_cons, List.mapM_nil, Option.pure_def, Option.bind_eq_bind, Option.bind_some, Array.toList], ?_⟩
  have : r = (hdr q, 0) := by rw [← hr, takeH, if_pos ⟨rfl, hb1, hb2, h17⟩, h2]; rfl
  rw [this]
  exact Fin.base (.id (pe_scoped _ (hdr q) 0))

end Go.Proofs.YtbhdollgohgkgaaGreatDoor.Sc

namespace Go.Proofs.YtbhdollgohgkgaaGreatDoor.Sc
set_option linter.all false
set_option linter.unusedVariables false
set_option linter.unusedSimpArgs false
open Pm Ty Go.RowKit

set_option maxHeartbeats 1600000 in
theorem takeH_ref (t : Int) (q : List UInt8) (f : Bool) (hq : q.length ≤ 1000000) (H : Heap) : CallOk Tryz.prog 36 [.agg [.int .i64 t, .slice (bs q) q.length f]] H (.tup [.agg (pic (takeH t q).1), .int .i64 (takeH t q).2]) H := by
  generalize hr : takeH t q = r
  refine CallOk.body (F0 := [(0, .agg [.int .i64 t, .slice (bs q) q.length f])]) Tryz.func36 rfl Tryz.ntmps36 Tryz.results36 rfl (by kernel_rfl) rfl ?_
  (repeat refine PW.seq ?_); refine PW.rg rfl fun K hK => ?_; simp (maxSteps := 3000000) (disch := omega) only [go_sem, ↓reduceIte, reduceCtorEq, pappend, plen]; refine hK _ _ ?_; clear hK K
  by_cases hb : q.length = 0 ∨ lastB q = 0
  · (repeat refine PW.seq ?_); refine PW.rg rfl fun K hK => ?_; simp (maxSteps := 3000000) (disch := omega) only [go_sem, ↓reduceIte, reduceCtorEq, pappend, plen]; refine VCx.call (open_bad q f _ (by omega) hb) rfl ?_; simp (maxSteps := 3000000) (disch := omega) only [go_sem, ↓reduceIte, reduceCtorEq, pappend, plen]; refine hK _ _ ?_; clear hK K
    (repeat refine PW.seq ?_); refine PW.rg rfl fun K hK => ?_; simp (maxSteps := 3000000) (disch := omega) only [go_sem, ↓reduceIte, reduceCtorEq, pappend, plen]; refine hK _ _ ?_; clear hK K
    (repeat refine PW.seq ?_); refine PW.cond (t := _) rfl (fun h => ?_) (fun h => ?_)
    · (repeat refine PW.seq ?_); refine PW.rg rfl fun K hK => ?_; simp (maxSteps := 3000000) (disch := omega) only [go_sem, ↓reduceIte, reduceCtorEq, pappend, plen]; refine hK _ _ ?_; clear hK K
      refine PW.ret ⟨.tup [.agg [.int .i64 0, .int .i64 0, .int .i64 0, .bool false, .bool false, .bool false], .int .i64 3], by simp (maxSteps := 3000000) (disch := omega) only [go_sem, ↓reduceIte, reduceCtorEq, pappend, plen, presults, presult, List.mapM_cons, List.mapM_nil, Option.pure_def, Option.bind_eq_bind, Option.bind_some, Array.toList], ?_⟩
      have : r = (pi0, 3) := by rw [← hr, takeH, if_neg (by omega)]
      rw [this]
      exact Fin.base (.id (pe_scoped _ pi0 3))
    · cases h
  have hb1 : q.length ≠ 0 := fun e => hb (.inl e)
  have hb2 : lastB q ≠ 0 := fun e => hb (.inr e)
  obtain ⟨n1, n2, n3⟩ := nb_one q hb1 hb2
  (repeat refine PW.seq ?_); refine PW.rg rfl fun K hK => ?_; simp (maxSteps := 3000000) (disch := omega) only [go_sem, ↓reduceIte, reduceCtorEq, pappend, plen]; refine VCx.call (open_ok q f _ (by omega) hb1 hb2) rfl ?_; simp (maxSteps := 3000000) (disch := omega) only [go_sem, ↓reduceIte, reduceCtorEq, pappend, plen]; refine hK _ _ ?_; clear hK K
  by_cases h1 : t = 181
  case neg =>
    have e1 : (t != 181) = true := by simpa using h1
    (repeat refine PW.seq ?_); refine PW.rg rfl fun K hK => ?_; simp (maxSteps := 3000000) (disch := omega) only [go_sem, ↓reduceIte, reduceCtorEq, pappend, plen, e1]; refine hK _ _ ?_; clear hK K
    (repeat refine PW.seq ?_); refine PW.cond (t := _) rfl (fun h => ?_) (fun h => ?_)
    · (repeat refine PW.seq ?_); refine PW.rg rfl fun K hK => ?_; simp (maxSteps := 3000000) (disch := omega) only [go_sem, ↓reduceIte, reduceCtorEq, pappend, plen]; refine hK _ _ ?_; clear hK K
      refine PW.ret ⟨.tup [.agg [.int .i64 0, .int .i64 0, .int .i64 0, .bool false, .bool false, .bool false], .int .i64 3], by simp (maxSteps := 3000000) (disch := omega) only [go_sem, ↓reduceIte, reduceCtorEq, pappend, plen, presults, presult, List.mapM_cons, List.mapM_nil, Option.pure_def, Option.bind_eq_bind, Option.bind_some, Array.toList], ?_⟩
      have : r = (pi0, 3) := by rw [← hr, takeH, if_neg (by simp [h1])]
      rw [this]
      exact Fin.base (.id (pe_scoped _ pi0 3))
    · cases h
  subst h1
  (repeat refine PW.seq ?_); refine PW.rg rfl fun K hK => ?_; simp (maxSteps := 3000000) (disch := omega) only [go_sem, ↓reduceIte, reduceCtorEq, pappend, plen]; refine VCx.call (rleft_ref (H.length + 3) (H.length + 2) (8 * q.length) q (nb q) 0 _ (hp3 _ _ _ _ _ _) (hp2 _ _ _ _ _) (by omega) (by omega)) rfl ?_; simp (maxSteps := 3000000) (disch := omega) only [go_sem, ↓reduceIte, reduceCtorEq, pappend, plen]; refine hK _ _ ?_; clear hK K
  (repeat refine PW.seq ?_); refine PW.cond (t := _) rfl (fun h => ?_) (fun h => ?_)
  · have h17 : nb q ≠ 17 := by simp at h; omega
    (repeat refine PW.seq ?_); refine PW.rg rfl fun K hK => ?_; simp (maxSteps := 3000000) (disch := omega) only [go_sem, ↓reduceIte, reduceCtorEq, pappend, plen]; refine hK _ _ ?_; clear hK K
    refine PW.ret ⟨.tup [.agg [.int .i64 0, .int .i64 0, .int .i64 0, .bool false, .bool false, .bool false], .int .i64 3], by simp (maxSteps := 3000000) (disch := omega) only [go_sem, ↓reduceIte, reduceCtorEq, pappend, plen, presults, presult, List.mapM_cons, List.mapM_nil, Option.pure_def, Option.bind_eq_bind, Option.bind_some, Array.toList], ?_⟩
    have : r = (pi0, 3) := by rw [← hr, takeH, if_neg (by simp [h17])]
    rw [this]
    exact Fin.base (.id (pe_scoped _ pi0 3))
  have h17 : nb q = 17 := by simp at h; omega
  refine PW.skip ?_
  rw [h17]
  have hv : ∀ a m, m ≤ 10 → vl q a m < 1024 := fun a m hm => by
    have h1 := vl_lt q a m
    have : 2 ^ m ≤ 2 ^ 10 := Nat.pow_le_pow_right (by omega) hm
    omega
  have v1 := hv 0 10 (by omega)
  have v2 := hv 10 2 (by omega)
  have v3 := hv 12 2 (by omega)
  have v4 := hv 14 1 (by omega)
  have v5 := hv 15 1 (by omega)
  have v6 := hv 16 1 (by omega)
  have tk := fun (U P : Blk) (K : Heap) (a m : Nat) (ha : a + m ≤ 17) (hm : m ≤ 32) => rtake_ref (H.length + 3) (H.length + 2) (8 * q.length) q 17 a m (H ++ U :: P :: rB q (8 * q.length) :: rR (H.length + 2) (8 * q.length) 17 a :: K) (hp3 _ _ _ _ _ _) (hp2 _ _ _ _ _) (by omega) ha (by omega) (by omega) hm
  simp only [hs3] at tk
  (repeat refine PW.seq ?_); refine PW.rg rfl fun K hK => ?_; simp (maxSteps := 3000000) (disch := omega) only [go_sem, ↓reduceIte, reduceCtorEq, pappend, plen]; refine VCx.call (tk _ _ _ 0 10 (by omega) (by omega)) rfl ?_; simp (maxSteps := 3000000) (disch := omega) only [go_sem, ↓reduceIte, reduceCtorEq, pappend, plen]; refine hK _ _ ?_; clear hK K
  (repeat refine PW.seq ?_); refine PW.rg rfl fun K hK => ?_; simp (maxSteps := 3000000) (disch := omega) only [go_sem, ↓reduceIte, reduceCtorEq, pappend, plen]; refine VCx.call (tk _ _ _ 10 2 (by omega) (by omega)) rfl ?_; simp (maxSteps := 3000000) (disch := omega) only [go_sem, ↓reduceIte, reduceCtorEq, pappend, plen]; refine hK _ _ ?_; clear hK K
  (repeat refine PW.seq ?_); refine PW.rg rfl fun K hK => ?_; simp (maxSteps := 3000000) (disch := omega) only [go_sem, ↓reduceIte, reduceCtorEq, pappend, plen]; refine VCx.call (tk _ _ _ 12 2 (by omega) (by omega)) rfl ?_; simp (maxSteps := 3000000) (disch := omega) only [go_sem, ↓reduceIte, reduceCtorEq, pappend, plen]; refine hK _ _ ?_; clear hK K
  (repeat refine PW.seq ?_); refine PW.rg rfl fun K hK => ?_; simp (maxSteps := 3000000) (disch := omega) only [go_sem, ↓reduceIte, reduceCtorEq, pappend, plen]; refine VCx.call (tk _ _ _ 14 1 (by omega) (by omega)) rfl ?_; simp (maxSteps := 3000000) (disch := omega) only [go_sem, ↓reduceIte, reduceCtorEq, pappend, plen]; refine hK _ _ ?_; clear hK K
  (repeat refine PW.seq ?_); refine PW.rg rfl fun K hK => ?_; simp (maxSteps := 3000000) (disch := omega) only [go_sem, ↓reduceIte, reduceCtorEq, pappend, plen]; refine VCx.call (tk _ _ _ 15 1 (by omega) (by omega)) rfl ?_; simp (maxSteps := 3000000) (disch := omega) only [go_sem, ↓reduceIte, reduceCtorEq, pappend, plen]; refine hK _ _ ?_; clear hK K
  (repeat refine PW.seq ?_); refine PW.rg rfl fun K hK => ?_; simp (maxSteps := 3000000) (disch := omega) only [go_sem, ↓reduceIte, reduceCtorEq, pappend, plen]; refine VCx.call (tk _ _ _ 16 1 (by omega) (by omega)) rfl ?_; simp (maxSteps := 3000000) (disch := omega) only [go_sem, ↓reduceIte, reduceCtorEq, pappend, plen]; refine hK _ _ ?_; clear hK K
  (repeat refine PW.seq ?_); refine PW.rg rfl fun K hK => ?_; simp (maxSteps := 3000000) (disch := omega) only [go_sem, ↓reduceIte, reduceCtorEq, pappend, plen]; refine hK _ _ ?_; clear hK K
  (repeat refine PW.seq ?_); refine PW.rg rfl fun K hK => ?_; simp (maxSteps := 3000000) (disch := omega) only [go_sem, ↓reduceIte, reduceCtorEq, pappend, plen]; refine VCx.call (codd_ref (hdr q) _) rfl ?_; simp (maxSteps := 3000000) (disch := omega) only [go_sem, ↓reduceIte, reduceCtorEq, pappend, plen]; refine hK _ _ ?_; clear hK K
  (repeat refine PW.seq ?_); refine PW.cond (t := _) rfl (fun h => ?_) (fun h => ?_)
  · have h2 : codd (hdr q) = false := by simpa using h
    (repeat refine PW.seq ?_); refine PW.rg rfl fun K hK => ?_; simp (maxSteps := 3000000) (disch := omega) only [go_sem, ↓reduceIte, reduceCtorEq, pappend, plen]; refine hK _ _ ?_; clear hK K
    refine PW.ret ⟨.tup [.agg [.int .i64 0, .int .i64 0, .int .i64 0, .bool false, .bool false, .bool false], .int .i64 3], by simp (maxSteps := 3000000) (disch := omega) only [go_sem, ↓reduceIte, reduceCtorEq, pappend, plen, presults, presult, List.mapM_cons, List.mapM_nil, Option.pure_def, Option.bind_eq_bind, Option.bind_some, Array.toList], ?_⟩
    have : r = (pi0, 3) := by rw [← hr, takeH, if_pos ⟨rfl, hb1, hb2, h17⟩, h2]; rfl
    rw [this]
    exact Fin.base (.id (pe_scoped _ pi0 3))
  have h2 : codd (hdr q) = true := by simpa using h
  refine PW.skip ?_
  (repeat refine PW.seq ?_); refine PW.rg rfl fun K hK => ?_; simp (maxSteps := 3000000) (disch := omega) only [go_sem, ↓reduceIte, reduceCtorEq, pappend, plen]; refine hK _ _ ?_; clear hK K
  refine PW.ret ⟨.tup [.agg [.int .i64 (vl q 10 2 : Int), .int .i64 (vl q 12 2 : Int), .int .i64 (vl q 0 10 : Int), .bool ((vl q 14 1 : Int) == 1), .bool ((vl q 15 1 : Int) == 1), .bool ((vl q 16 1 : Int) == 1)], .int .i64 0], by simp (maxSteps := 3000000) (disch := omega) only [go_sem, ↓reduceIte, reduceCtorEq, pappend, plen, presults, presult, List.mapM_cons, List.mapM_nil, Option.pure_def, Option.bind_eq_bind, Option.bind_some, Array.toList], ?_⟩
  have : r = (hdr q, 0) := by rw [← hr, takeH, if_pos ⟨rfl, hb1, hb2, h17⟩, h2]; rfl
  rw [this]
  exact Fin.base (.id (pe_scoped _ (hdr q) 0))

end Go.Proofs.YtbhdollgohgkgaaGreatDoor.Sc

namespace Go.Proofs.YtbhdollgohgkgaaGreatDoor.Sc
set_option linter.all false
set_option linter.unusedVariables false
set_option linter.unusedSimpArgs false
open Pm Ty Go.RowKit

theorem same_okP (p q : List UInt8) (f g : Bool) (H : Heap) : CallOk Tryz.prog 20 [.slice (bs p) p.length f, .slice (bs q) q.length g] H (.bool (p == q)) H := by
  refine CallOk.body (F0 := [(0, .slice (bs p) p.length f), (1, .slice (bs q) q.length g)]) Tryz.func20 rfl Tryz.ntmps20 Tryz.results20 rfl (by kernel_rfl) rfl ?_
  (repeat refine PW.seq ?_); refine PW.rg rfl fun K hK => ?_; simp (maxSteps := 3000000) (disch := omega) only [go_sem, ↓reduceIte, reduceCtorEq, pappend, plen]; refine hK _ _ ?_; clear hK K
  (repeat refine PW.seq ?_); refine PW.rg rfl fun K hK => ?_; simp (maxSteps := 3000000) (disch := omega) only [go_sem, ↓reduceIte, reduceCtorEq, pappend, plen, length_bs, pbytes_bs]; refine hK _ _ ?_; clear hK K
  exact PW.ret ⟨_, rfl, .inl ⟨rfl, rfl⟩⟩
theorem sameunit_ok (t u : Int) (p q : List UInt8) (f g : Bool) (H : Heap) : CallOk Tryz.prog 61 [.agg [.int .i64 t, .slice (bs p) p.length f], .agg [.int .i64 u, .slice (bs q) q.length g]] H (.bool (t == u && p == q)) H := by
  refine CallOk.body (F0 := [(0, .agg [.int .i64 t, .slice (bs p) p.length f]), (1, .agg [.int .i64 u, .slice (bs q) q.length g])]) Tryz.func61 rfl Tryz.ntmps61 Tryz.results61 rfl (by kernel_rfl) rfl ?_
  (repeat refine PW.seq ?_); refine PW.rg rfl fun K hK => ?_; simp (maxSteps := 3000000) (disch := omega) only [go_sem, ↓reduceIte, reduceCtorEq, pappend, plen]; refine hK _ _ ?_; clear hK K
  by_cases h : t = u
  · (repeat refine PW.seq ?_); refine PW.rg rfl fun K hK => ?_; simp (maxSteps := 3000000) (disch := omega) only [go_sem, ↓reduceIte, reduceCtorEq, pappend, plen]; refine VCx.call (same_okP p q f g _) rfl ?_; simp (maxSteps := 3000000) (disch := omega) only [go_sem, ↓reduceIte, reduceCtorEq, pappend, plen]; refine hK _ _ ?_; clear hK K
    refine PW.ret ⟨_, rfl, Fin.base (.id' ?_ (.bool _))⟩
    simp [h, slot, Nat.beq]
  · (repeat refine PW.seq ?_); refine PW.rg rfl fun K hK => ?_; simp (maxSteps := 3000000) (disch := omega) only [go_sem, ↓reduceIte, reduceCtorEq, pappend, plen]; refine hK _ _ ?_; clear hK K
    refine PW.ret ⟨_, rfl, Fin.base (.id' ?_ (.bool _))⟩
    simp [h, slot, Nat.beq]

end Go.Proofs.YtbhdollgohgkgaaGreatDoor.Sc

namespace Go.Proofs.YtbhdollgohgkgaaGreatDoor.S3
set_option linter.all false
set_option linter.unusedVariables false
set_option linter.unusedSimpArgs false
open Pm Ty Sc Go.RowKit
set_option maxRecDepth 100000

theorem run_ok (z c : Int) (H : Heap) (hz : 0 ≤ z) (hz2 : z ≤ 1000000000) : CallOk Tryz.prog 40 [.int .i64 z, .int .u8 c] H (.int .i64 (if c = 0 then z + 1 else 0)) H := by
  refine CallOk.body (F0 := [(0, .int .i64 z), (1, .int .u8 c)]) Tryz.func40 rfl Tryz.ntmps40 Tryz.results40 rfl (by kernel_rfl) rfl ?_
  refine PW.seq ?_; (repeat refine PW.seq ?_); refine PW.rg rfl fun K hK => ?_; simp (maxSteps := 3000000) (disch := omega) only [go_sem, ↓reduceIte, reduceCtorEq, pappend, plen]; refine hK _ _ ?_; clear hK K
  refine PW.seq (PW.seq ?_); (repeat refine PW.seq ?_); refine PW.rg rfl fun K hK => ?_; simp (maxSteps := 3000000) (disch := omega) only [go_sem, ↓reduceIte, reduceCtorEq, pappend, plen]; refine hK _ _ ?_; clear hK K
  refine PW.cond (t := _) rfl (fun h => ?_) (fun h => ?_)
  · have hc : c = 0 := by simpa using h
    refine PW.seq ?_; (repeat refine PW.seq ?_); refine PW.rg rfl fun K hK => ?_; simp (maxSteps := 3000000) (disch := omega) only [go_sem, ↓reduceIte, reduceCtorEq, pappend, plen]; refine hK _ _ ?_; clear hK K
    exact PW.ret ⟨_, rfl, .inl ⟨by rw [if_pos hc]; rfl, rfl⟩⟩
  · have hc : ¬ c = 0 := by simpa using h
    refine PW.skip ?_
    refine PW.seq ?_; (repeat refine PW.seq ?_); refine PW.rg rfl fun K hK => ?_; simp (maxSteps := 3000000) (disch := omega) only [go_sem, ↓reduceIte, reduceCtorEq, pappend, plen]; refine hK _ _ ?_; clear hK K
    exact PW.ret ⟨_, rfl, .inl ⟨by rw [if_neg hc]; rfl, rfl⟩⟩

def ends0 (p : List UInt8) : Bool := decide (0 < p.length) && (byt p (p.length - 1) == 0)

theorem ends0_ok (p : List UInt8) (full : Bool) (H : Heap) (hl : p.length ≤ 2000000) : CallOk Tryz.prog 39 [.slice (bs p) p.length full] H (.bool (ends0 p)) H := by
  refine CallOk.body (F0 := [(0, .slice (bs p) p.length full)]) Tryz.func39 rfl Tryz.ntmps39 Tryz.results39 rfl (by kernel_rfl) rfl ?_
  refine PW.seq ?_; (repeat refine PW.seq ?_); refine PW.rg rfl fun K hK => ?_; simp (maxSteps := 3000000) (disch := omega) only [go_sem, ↓reduceIte, reduceCtorEq, pappend, plen]; refine hK _ _ ?_; clear hK K
  refine PW.seq (PW.rg1 [2] [(2, .bool (ends0 p))] H rfl ?_ (PW.ret ⟨_, rfl, .inl ⟨rfl, rfl⟩⟩))
  by_cases h : 0 < p.length
  · simp (maxSteps := 3000000) (disch := omega) only [go_sem, ↓reduceIte, reduceCtorEq, pappend, plen, length_bs, bs_get]
    simp [ends0, h]
  · simp (maxSteps := 3000000) (disch := omega) only [go_sem, ↓reduceIte, reduceCtorEq, pappend, plen, length_bs, bs_get]
    simp [ends0, h]

/-- A start code at place j. -/
def code (p : List UInt8) (j : Nat) : Bool := byt p j == 0 && byt p (j + 1) == 0 && byt p (j + 2) == 1 && byt p (j + 3) != 0
/-- The first start code from place i on. -/
def nxt (p : List UInt8) (i : Nat) : Nat := if i + 4 ≤ p.length then (if code p i then i else nxt p (i + 1)) else p.length
termination_by p.length - i

theorem next_ok (p : List UInt8) (full : Bool) (i : Nat) (H : Heap) (hl : p.length ≤ 2000000) (hi : i ≤ 2000010) : CallOk Tryz.prog 22 [.slice (bs p) p.length full, .int .i64 (i : Int)] H (.int .i64 (nxt p i : Int)) H := by
  generalize hr : nxt p i = r
  refine CallOk.body (F0 := [(0, .slice (bs p) p.length full), (1, .int .i64 (i : Int))]) Tryz.func22 rfl Tryz.ntmps22 Tryz.results22 rfl (by kernel_rfl) rfl ?_
  refine PW.seq ?_; (repeat refine PW.seq ?_); refine PW.rg rfl fun K hK => ?_; simp (maxSteps := 3000000) (disch := omega) only [go_sem, ↓reduceIte, reduceCtorEq, pappend, plen]; refine hK _ _ ?_; clear hK K
  refine PW.seq (PW.block (PW.loop ?_))
  refine PL.keep [0, 1] (?_ : PL _ _ _ [(0, .slice (bs p) p.length full), (1, .int .i64 (i : Int))] _ _)
  induction hm : p.length - i using Nat.strongRecOn generalizing i with
  | _ n ih =>
    refine PL.round (PW.seq (PW.seq ?_)); (repeat refine PW.seq ?_); refine PW.rg rfl fun K hK => ?_; simp (maxSteps := 3000000) (disch := omega) only [go_sem, ↓reduceIte, reduceCtorEq, pappend, plen]; refine hK _ _ ?_; clear hK K
    (repeat refine PW.seq ?_); refine PW.cond (t := _) rfl (fun h => ?_) (fun h => ?_)
    · have h4 : i + 4 ≤ p.length := by have := of_decide_eq_true h; omega
      refine PW.skip (PW.seq (PW.block (PW.seq ?_)))
      refine PW.rg1 [0, 1, 40] [(0, .slice (bs p) p.length full), (1, .int .i64 (i : Int)), (40, .bool (code p i))] H rfl ?_ ?_
      · by_cases h1 : byt p i = 0 <;> by_cases h2 : byt p (i + 1) = 0 <;> by_cases h3 : byt p (i + 2) = 1
        all_goals simp (maxSteps := 3000000) (disch := omega) only [go_sem, ↓reduceIte, reduceCtorEq, pappend, plen, length_bs, bs_get]
        all_goals simp [code, h1, h2, h3]
      (repeat refine PW.seq ?_); refine PW.cond (t := _) rfl (fun h => ?_) (fun h => ?_)
      · refine PW.seq ?_; (repeat refine PW.seq ?_); refine PW.rg rfl fun K hK => ?_; simp (maxSteps := 3000000) (disch := omega) only [go_sem, ↓reduceIte, reduceCtorEq, pappend, plen]; refine hK _ _ ?_; clear hK K
        refine PW.ret ⟨_, rfl, .inl ⟨?_, rfl⟩⟩
        rw [← hr, nxt, if_pos h4, if_pos h]; rfl
      · refine PW.skip ?_
        (repeat refine PW.seq ?_); refine PW.rg rfl fun K hK => ?_; simp (maxSteps := 3000000) (disch := omega) only [go_sem, ↓reduceIte, reduceCtorEq, pappend, plen]; refine hK _ _ ?_; clear hK K
        refine PL.keep [0, 1] ?_
        refine ih (p.length - (i + 1)) (by omega) (i + 1) (by omega) ?_ rfl
        rw [← hr, nxt.eq_def p i, if_pos h4, if_neg (by simp [h])]
    · have h4 : ¬ i + 4 ≤ p.length := by have := of_decide_eq_false h; omega
      refine PW.exit (PW.seq ?_); (repeat refine PW.seq ?_); refine PW.rg rfl fun K hK => ?_; simp (maxSteps := 3000000) (disch := omega) only [go_sem, ↓reduceIte, reduceCtorEq, pappend, plen]; refine hK _ _ ?_; clear hK K
      refine PW.ret ⟨_, rfl, .inl ⟨?_, rfl⟩⟩
      rw [← hr, nxt, if_neg h4]; rfl

/-- Escape, byte by byte: what has been written, and the zeros at its end. -/
def escStep (s : List UInt8 × Nat) (c : UInt8) : List UInt8 × Nat :=
  if s.2 = 2 ∧ c.toNat < 4 then (s.1 ++ [3] ++ [c], if c.toNat = 0 then 1 else 0) else (s.1 ++ [c], if c.toNat = 0 then s.2 + 1 else 0)
def escS (p : List UInt8) : List UInt8 × Nat := p.foldl escStep ([], 0)
def esc (p : List UInt8) : List UInt8 := (escS p).1
theorem escS_snoc (p : List UInt8) (c : UInt8) : escS (p ++ [c]) = escStep (escS p) c := by simp [escS]
theorem escStep_yes (s : List UInt8 × Nat) (c : UInt8) (h1 : s.2 = 2) (h2 : c.toNat < 4) : escStep s c = (s.1 ++ [3] ++ [c], if c.toNat = 0 then 0 + 1 else 0) := by
  unfold escStep; rw [if_pos ⟨h1, h2⟩]
theorem escStep_no (s : List UInt8 × Nat) (c : UInt8) (h : ¬ (s.2 = 2 ∧ c.toNat < 4)) : escStep s c = (s.1 ++ [c], if c.toNat = 0 then s.2 + 1 else 0) := by
  unfold escStep; rw [if_neg h]
theorem snoc_ind {motive : List UInt8 → Prop} (nil : motive []) (snoc : ∀ p c, motive p → motive (p ++ [c])) (p : List UInt8) : motive p := by
  have h : ∀ q : List UInt8, motive q.reverse := fun q => by
    induction q with
    | nil => exact nil
    | cons c q ih => rw [List.reverse_cons]; exact snoc _ _ ih
  have := h p.reverse
  rwa [List.reverse_reverse] at this
theorem escS_bd (p : List UInt8) : (escS p).2 ≤ 2 ∧ (escS p).1.length ≤ 2 * p.length := by
  induction p using snoc_ind with
  | nil => simp [escS]
  | snoc p c ih =>
    rw [escS_snoc]
    unfold escStep
    by_cases h1 : (escS p).2 = 2
    · by_cases h2 : c.toNat < 4
      · rw [if_pos ⟨h1, h2⟩]
        refine ⟨by split <;> simp, by simp; omega⟩
      · rw [if_neg (fun h => h2 h.2)]
        refine ⟨by rw [if_neg (by omega)]; simp, by simp; omega⟩
    · rw [if_neg (fun h => h1 h.1)]
      refine ⟨by split <;> simp <;> omega, by simp; omega⟩

/-- What Escape returns. -/
def escR (p : List UInt8) : List UInt8 × Int := if ends0 p then ([], 3) else (esc p, 0)
/-- Bytes as a slice. -/
def bv (p : List UInt8) : PV := .slice (bs p) p.length false
end Go.Proofs.YtbhdollgohgkgaaGreatDoor.S3

namespace Go.Proofs.YtbhdollgohgkgaaGreatDoor.S3
set_option linter.all false
set_option linter.unusedVariables false
set_option linter.unusedSimpArgs false
open Pm Ty Sc Go.RowKit
set_option maxRecDepth 100000

/-- The zeros at the end. -/
def tz (l : List UInt8) : Nat := (l.reverse.takeWhile (· = 0)).length
theorem tz_snoc (l : List UInt8) (c : UInt8) : tz (l ++ [c]) = if c.toNat = 0 then tz l + 1 else 0 := by
  unfold tz
  rw [List.reverse_append, List.reverse_singleton, List.singleton_append, List.takeWhile_cons]
  by_cases h : c = 0
  · subst h; simp
  · have : ¬ c.toNat = 0 := fun e => h (UInt8.toNat_inj.1 (by simpa using e))
    simp [h, this]
theorem tz_esc (p : List UInt8) : tz (escS p).1 = (escS p).2 := by
  induction p using snoc_ind with
  | nil => rfl
  | snoc p c ih =>
    rw [escS_snoc]
    by_cases h : (escS p).2 = 2 ∧ c.toNat < 4
    · rw [escStep_yes _ _ h.1 h.2, tz_snoc, tz_snoc]; simp
    · rw [escStep_no _ _ h, tz_snoc, ih]
theorem tz_two (l : List UInt8) : 2 ≤ tz l ↔ 2 ≤ l.length ∧ byt l (l.length - 1) = 0 ∧ byt l (l.length - 2) = 0 := by
  induction l using snoc_ind with
  | nil => simp [tz]
  | snoc l a _ =>
    rw [tz_snoc]
    have e1 : byt (l ++ [a]) ((l ++ [a]).length - 1) = (a.toNat : Int) := by simp [byt]
    by_cases ha : a.toNat = 0
    · rw [if_pos ha, e1]
      induction l using snoc_ind with
      | nil => simp [tz]
      | snoc l b _ =>
        have e2 : byt (l ++ [b] ++ [a]) ((l ++ [b] ++ [a]).length - 2) = (b.toNat : Int) := by simp [byt]
        rw [tz_snoc, e2]
        by_cases hb : b.toNat = 0
        · rw [if_pos hb]; simp; omega
        · rw [if_neg hb]; simp; omega
    · rw [if_neg ha, e1]; simp; omega

theorem escape_ref (p : List UInt8) (full : Bool) (H : Heap) (hl : p.length ≤ 1000000) : CallOk Tryz.prog 54 [.slice (bs p) p.length full] H (.tup [bv (escR p).1, .int .i64 (escR p).2]) H := by
  refine CallOk.body (F0 := [(0, .slice (bs p) p.length full)]) Tryz.func54 rfl Tryz.ntmps54 Tryz.results54 rfl (by kernel_rfl) rfl ?_
  refine PW.seq ?_; (repeat refine PW.seq ?_); refine PW.rg rfl fun K hK => ?_; simp (maxSteps := 3000000) (disch := omega) only [go_sem, ↓reduceIte, reduceCtorEq, pappend, plen]; refine hK _ _ ?_; clear hK K
  refine PW.seq (PW.seq (PW.rg1 [0, 18] [(0, .slice (bs p) p.length full), (18, .bool (ends0 p))] H rfl ?_ ?_))
  · by_cases h : 0 < p.length
    · simp (maxSteps := 3000000) (disch := omega) only [go_sem, ↓reduceIte, reduceCtorEq, pappend, plen, length_bs, bs_get]
      simp [ends0, h]
    · simp (maxSteps := 3000000) (disch := omega) only [go_sem, ↓reduceIte, reduceCtorEq, pappend, plen, length_bs, bs_get]
      simp [ends0, h]
  (repeat refine PW.seq ?_); refine PW.cond (t := _) rfl (fun h => ?_) (fun h => ?_)
  · have he : escR p = ([], 3) := by rw [escR, if_pos h]
    rw [he]
    refine PW.seq ?_; (repeat refine PW.seq ?_); refine PW.rg rfl fun K hK => ?_; simp (maxSteps := 3000000) (disch := omega) only [go_sem, ↓reduceIte, reduceCtorEq, pappend, plen]; refine hK _ _ ?_; clear hK K
    exact PW.ret ⟨_, rfl, Fin.give (Kept.refl H) (Frz.tup2 (Frz.slice (bs_still [])) ((Still.int _ _).frz _ _))⟩
  have he : escR p = (esc p, 0) := by rw [escR, if_neg (by simp [h])]
  rw [he]
  refine PW.skip (PW.seq ?_); (repeat refine PW.seq ?_); refine PW.rg rfl fun K hK => ?_; simp (maxSteps := 3000000) (disch := omega) only [go_sem, ↓reduceIte, reduceCtorEq, pappend, plen]; refine hK _ _ ?_; clear hK K
  refine PW.seq (PW.seq ?_); (repeat refine PW.seq ?_); refine PW.rg rfl fun K hK => ?_; simp (maxSteps := 3000000) (disch := omega) only [go_sem, ↓reduceIte, reduceCtorEq, pappend, plen]; refine hK _ _ ?_; clear hK K
  refine PW.block (PW.loop ?_)
  suffices hloop : ∀ (k : Nat) (v : PV) (H1 : Heap), k ≤ p.length → Acc H.length 5 1 H1 v (bs (escS (p.take k)).1) (escS (p.take k)).1.length → Kept H.length H H1 →
      PL Tryz.prog _ _ [(0, .slice (bs p) p.length full), (4, v), (5, .int .i64 (k : Int))] H1 _ by
    exact PL.keep [0, 4, 5] (hloop 0 _ H (Nat.zero_le _) (Acc.nil _ _ _ _) (Kept.refl H))
  intro k v H1 hk hacc hkept
  induction hm : p.length - k using Nat.strongRecOn generalizing k v H1 with
  | _ n ih =>
    have hbd := escS_bd (p.take k)
    have hlk : (p.take k).length = k := by simp; omega
    refine PL.round (PW.seq (PW.seq ?_)); (repeat refine PW.seq ?_); refine PW.rg rfl fun K hK => ?_; simp (maxSteps := 3000000) (disch := omega) only [go_sem, ↓reduceIte, reduceCtorEq, pappend, plen]; refine hK _ _ ?_; clear hK K
    (repeat refine PW.seq ?_); refine PW.cond (t := _) rfl (fun h => ?_) (fun h => ?_)
    · have h4 : k < p.length := by have := of_decide_eq_true h; omega
      have hby := byt_range p k
      have hc : byt p k = ((p.getD k 0).toNat : Int) := rfl
      have hlen := hacc.len (P := Tryz.prog) Tryz.underlying22
      refine PW.skip (PW.seq (PW.block (PW.seq ?_))); (repeat refine PW.seq ?_); refine PW.rg rfl fun K hK => ?_; simp (maxSteps := 3000000) (disch := omega) only [go_sem, ↓reduceIte, reduceCtorEq, pappend, ↓hlen]; refine hK _ _ ?_; clear hK K
      refine PW.join [0, 4, 5] (fun F' H' => ∃ v1 out1, F' = [(0, .slice (bs p) p.length full), (4, v1), (5, .int .i64 (k : Int))] ∧
        Acc H.length 5 1 H' v1 (bs out1) out1.length ∧ Kept H.length H H' ∧ out1.length ≤ 2 * k + 1 ∧ out1 ++ [p.getD k 0] = (escStep (escS (p.take k)) (p.getD k 0)).1) ?_ ?_
      · refine PW.seq (PW.rg1 [0, 4, 5, 51] [(0, .slice (bs p) p.length full), (4, v), (5, .int .i64 (k : Int)), (51, .bool (decide ((escS (p.take k)).2 = 2 ∧ byt p k < 4)))] H1 rfl ?_ ?_)
        · have ht := tz_two (escS (p.take k)).1
          rw [tz_esc] at ht
          generalize (escS (p.take k)).1 = out at *
          generalize (escS (p.take k)).2 = z at *
          have hd : decide (z = 2 ∧ byt p k < 4) = (decide (byt p k < 4) && decide (2 ≤ out.length) && (byt out (out.length - 1) == 0) && (byt out (out.length - 2) == 0)) := by
            rw [Bool.eq_iff_iff]; simp; omega
          rw [hd]
          by_cases h1 : byt p k < 4
          · by_cases h2 : 2 ≤ out.length
            · rcases hacc.2 with rfl | ⟨id, ver, hid, rfl, hkk⟩
              all_goals by_cases h3 : byt out (out.length - 1) = 0
              · simp (maxSteps := 3000000) (disch := omega) only [go_sem, ↓reduceIte, reduceCtorEq, pappend, plen, length_bs, bs_get]
                all_goals simp [h1, h2, h3]
              · simp (maxSteps := 3000000) (disch := omega) only [go_sem, ↓reduceIte, reduceCtorEq, pappend, plen, length_bs, bs_get]
                all_goals simp [h1, h2, h3]
              · simp (maxSteps := 3000000) (disch := omega) only [go_sem, ↓reduceIte, reduceCtorEq, pappend, plen, length_bs, bs_get, hkk]
                all_goals simp [h1, h2, h3]
              · simp (maxSteps := 3000000) (disch := omega) only [go_sem, ↓reduceIte, reduceCtorEq, pappend, plen, length_bs, bs_get, hkk]
                all_goals simp [h1, h2, h3]
            · simp (maxSteps := 3000000) (disch := omega) only [go_sem, ↓reduceIte, reduceCtorEq, pappend, plen, length_bs, bs_get]
              try simp [h1, h2]
          · simp (maxSteps := 3000000) (disch := omega) only [go_sem, ↓reduceIte, reduceCtorEq, pappend, plen, length_bs, bs_get]
            try simp [h1]
        (repeat refine PW.seq ?_); refine PW.cond (t := _) rfl (fun h => ?_) (fun h => ?_)
        · have h5 := of_decide_eq_true h
          obtain ⟨v2, H2, hap, hacc2, hg2, ho2⟩ := hacc.append (P := Tryz.prog) (t := 22) (tx := 22) (x := .slice [.int .u8 3] 1 true) (news := bs [3]) (m := 1) Tryz.underlying22 sz5 by5 zc5 (by decide) rfl
            (by simp [appSrc, Tryz.underlying22, scells, bs]) rfl (by omega) (by omega) hkept.1
          (repeat refine PW.seq ?_); refine PW.rg rfl fun K hK => ?_; simp (maxSteps := 3000000) (disch := omega) only [go_sem, ↓reduceIte, reduceCtorEq, plen, hap]; refine hK _ _ ?_; clear hK K
          exact ⟨v2, (escS (p.take k)).1 ++ [3], rfl, by rw [bs_append, List.length_append]; exact hacc2, hkept.grew hg2 (fun j hj => (hacc.own_ge j hj).1), by simp; omega, by rw [escStep_yes _ _ h5.1 (by omega)]⟩
        · have h5 := of_decide_eq_false h
          exact PW.skip ⟨v, (escS (p.take k)).1, rfl, hacc, hkept, by omega, by rw [escStep_no _ _ (fun hh => h5 ⟨hh.1, by omega⟩)]⟩
      · rintro F' H' ⟨v1, out1, rfl, hacc1, hkept1, hl1, hstep⟩
        obtain ⟨v2, H2, hap, hacc2, hg2, ho2⟩ := hacc1.append (P := Tryz.prog) (t := 22) (tx := 22) (x := .slice [.int .u8 (byt p k)] 1 true) (news := bs [p.getD k 0]) (m := 1) Tryz.underlying22 sz5 by5 zc5 (by decide) rfl
          (by simp [appSrc, Tryz.underlying22, scells, bs, byt]) rfl (by omega) (by omega) hkept1.1
        (repeat refine PW.seq ?_); refine PW.rg rfl fun K hK => ?_; simp (maxSteps := 3000000) (disch := omega) only [go_sem, ↓reduceIte, reduceCtorEq, plen, hap, length_bs, bs_get]; refine hK _ _ ?_; clear hK K
        (repeat refine PW.seq ?_); refine PW.rg rfl fun K hK => ?_; simp (maxSteps := 3000000) (disch := omega) only [go_sem, ↓reduceIte, reduceCtorEq, pappend, plen]; refine hK _ _ ?_; clear hK K
        have e1 : p.take (k + 1) = p.take k ++ [p.getD k 0] := take_succ_byte p k h4
        have e2 : (escS (p.take (k + 1))).1 = out1 ++ [p.getD k 0] := by rw [e1, escS_snoc, hstep]
        refine PL.keep [0, 4, 5] ?_
        exact ih (p.length - (k + 1)) (by omega) (k + 1) v2 H2 (by omega) (by rw [e2, bs_append, List.length_append]; exact hacc2) (hkept1.grew hg2 (fun j hj => (hacc1.own_ge j hj).1)) rfl
    · have h4 : k = p.length := by have := of_decide_eq_false h; omega
      subst h4
      rw [List.take_length] at hacc
      refine PW.exit (PW.seq ?_); (repeat refine PW.seq ?_); refine PW.rg rfl fun K hK => ?_; simp (maxSteps := 3000000) (disch := omega) only [go_sem, ↓reduceIte, reduceCtorEq, pappend, plen]; refine hK _ _ ?_; clear hK K
      exact PW.ret ⟨_, rfl, Fin.give hkept (Frz.tup2 (Frz.acc hacc (bs_still _)) ((Still.int _ _).frz _ _))⟩

end Go.Proofs.YtbhdollgohgkgaaGreatDoor.S3

namespace Go.Proofs.YtbhdollgohgkgaaGreatDoor.S3
set_option linter.all false
set_option linter.unusedVariables false
set_option linter.unusedSimpArgs false
open Pm Ty Sc Go.RowKit
set_option maxRecDepth 100000

/-! ### the model -/
def run0 (z : Nat) (c : UInt8) : Nat := if c.toNat = 0 then z + 1 else 0
/-- Escape, from the front. -/
def escL : Nat → List UInt8 → List UInt8
  | _, [] => []
  | z, c :: r => if z = 2 ∧ c.toNat < 4 then 3 :: c :: escL (run0 0 c) r else c :: escL (run0 z c) r
theorem escL_fold : ∀ (p o : List UInt8) (z : Nat), (p.foldl escStep (o, z)).1 = o ++ escL z p
  | [], o, z => by simp [escL]
  | c :: r, o, z => by
    rw [List.foldl_cons]
    by_cases h : z = 2 ∧ c.toNat < 4
    · rw [escStep_yes _ _ h.1 h.2, escL_fold, escL, if_pos h]; simp [run0]
    · rw [escStep_no _ _ h, escL_fold, escL, if_neg h]; simp [run0]
theorem esc_eq (p : List UInt8) : esc p = escL 0 p := by
  unfold esc escS
  rw [escL_fold]
  rfl
theorem escL_last : ∀ (p : List UInt8) (z : Nat), (escL z p).getLast? = p.getLast?
  | [], z => rfl
  | [c], z => by
    unfold escL
    split <;> simp [escL]
  | c :: d :: r, z => by
    have ih : ∀ z, (escL z (d :: r)).getLast? = (d :: r).getLast? := fun z => escL_last (d :: r) z
    have hne : ∀ z, escL z (d :: r) ≠ [] := fun z h => by
      have := ih z
      rw [h] at this
      exact absurd (List.getLast?_eq_none_iff.1 this.symm) (by simp)
    unfold escL
    split
    · obtain ⟨a, l, e⟩ := List.exists_cons_of_ne_nil (hne (run0 0 c))
      have := ih (run0 0 c)
      rw [e] at this ⊢
      rw [List.getLast?_cons_cons, List.getLast?_cons_cons, List.getLast?_cons_cons, this]
    · obtain ⟨a, l, e⟩ := List.exists_cons_of_ne_nil (hne (run0 z c))
      have := ih (run0 z c)
      rw [e] at this ⊢
      rw [List.getLast?_cons_cons, List.getLast?_cons_cons, this]
theorem ends0_last (p : List UInt8) : ends0 p = (p.getLast? == some 0) := by
  unfold ends0 byt
  induction p using snoc_ind with
  | nil => rfl
  | snoc p c _ =>
    have e : (p ++ [c]).getD ((p ++ [c]).length - 1) 0 = c := by simp
    rw [e]
    simp only [List.length_append, List.length_cons, List.length_nil, List.getLast?_concat]
    rw [Bool.eq_iff_iff]
    simp
    constructor
    · intro h
      exact UInt8.toNat_inj.1 (by simpa using h)
    · rintro rfl; rfl
/-- Unescape. -/
def une : Nat → List UInt8 → List UInt8 → Option (List UInt8)
  | _, acc, [] => some acc
  | z, acc, c :: r =>
    if z = 2 ∧ c.toNat < 4 then
      match r with
      | [] => none
      | d :: r' => if c.toNat < 3 ∨ 4 ≤ d.toNat then none else une (run0 0 d) (acc ++ [d]) r'
    else une (run0 z c) (acc ++ [c]) r
theorem une_cons (z : Nat) (acc : List UInt8) (c : UInt8) (r : List UInt8) : une z acc (c :: r) = if z = 2 ∧ c.toNat < 4 then (match r with | [] => none | d :: r' => if c.toNat < 3 ∨ 4 ≤ d.toNat then none else une (run0 0 d) (acc ++ [d]) r') else une (run0 z c) (acc ++ [c]) r := by
  rw [une.eq_def]
/-- What Unescape returns. -/
def unR (b : List UInt8) : List UInt8 × Int := if ends0 b then ([], 3) else match une 0 [] b with | none => ([], 3) | some p => (p, 0)
theorem une_escL : ∀ (p acc : List UInt8) (z : Nat), une z acc (escL z p) = some (acc ++ p)
  | [], acc, z => by simp [escL, une]
  | c :: r, acc, z => by
    unfold escL
    by_cases h : z = 2 ∧ c.toNat < 4
    · rw [if_pos h]
      unfold une
      have e3 : (3 : UInt8).toNat = 3 := rfl
      rw [if_pos ⟨h.1, by rw [e3]; omega⟩]
      simp only [e3]
      rw [if_neg (by omega), une_escL r]
      simp
    · rw [if_neg h]
      unfold une
      rw [if_neg h, une_escL r]
      simp
theorem escL_une (b : List UInt8) : ∀ (acc q : List UInt8) (z : Nat), une z acc b = some q → ∃ p, q = acc ++ p ∧ b = escL z p := by
  induction hn : b.length using Nat.strongRecOn generalizing b with
  | _ n ih =>
    intro acc q z h
    cases b with
    | nil =>
      simp [une] at h
      exact ⟨[], by simp [h], rfl⟩
    | cons c r =>
      unfold une at h
      by_cases hc : z = 2 ∧ c.toNat < 4
      · rw [if_pos hc] at h
        cases r with
        | nil => simp at h
        | cons d r' =>
          simp only at h
          by_cases hd : c.toNat < 3 ∨ 4 ≤ d.toNat
          · rw [if_pos hd] at h; cases h
          · rw [if_neg hd] at h
            obtain ⟨p, hp, hb⟩ := ih r'.length (by rw [← hn]; simp only [List.length_cons]; omega) r' rfl _ _ _ h
            refine ⟨d :: p, by simp [hp], ?_⟩
            have e3 : c = 3 := UInt8.toNat_inj.1 (by show c.toNat = 3; omega)
            rw [escL, if_pos ⟨hc.1, by omega⟩, ← hb, e3]
      · rw [if_neg hc] at h
        obtain ⟨p, hp, hb⟩ := ih r.length (by rw [← hn]; simp) r rfl _ _ _ h
        exact ⟨c :: p, by simp [hp], by rw [escL, if_neg hc, ← hb]⟩
theorem une_nil_escR {p b : List UInt8} (h : escR p = (b, 0)) : unR b = (p, 0) := by
  unfold escR at h
  by_cases he : ends0 p = true
  · rw [if_pos he] at h
    simp at h
  · rw [if_neg he] at h
    obtain rfl := (Prod.mk.inj h).1
    rw [esc_eq]
    unfold unR
    rw [ends0_last, escL_last, ← ends0_last, if_neg he, une_escL]
    rfl
theorem escR_unR {p b : List UInt8} (h : unR b = (p, 0)) : escR p = (b, 0) := by
  unfold unR at h
  by_cases he : ends0 b = true
  · rw [if_pos he] at h
    simp at h
  · rw [if_neg he] at h
    split at h
    · simp at h
    · rename_i q hq
      obtain rfl := (Prod.mk.inj h).1
      obtain ⟨p', hp, hb⟩ := escL_une b _ _ _ hq
      obtain rfl : q = p' := by simpa using hp
      unfold escR
      have : ends0 q = ends0 b := by rw [ends0_last, ends0_last, hb, escL_last]
      rw [this, if_neg he, esc_eq, ← hb]
theorem unR_cases (b : List UInt8) : unR b = ([], 3) ∨ ∃ p, unR b = (p, 0) := by
  unfold unR
  split
  · exact .inl rfl
  · split
    · exact .inl rfl
    · exact .inr ⟨_, rfl⟩
theorem escR_cases (p : List UInt8) : escR p = ([], 3) ∨ escR p = (esc p, 0) := by
  unfold escR
  split
  · exact .inl rfl
  · exact .inr rfl

/-- A byte is appended. -/
theorem app_byte {B : Nat} {H : Heap} {v : PV} {out : List UInt8} (hacc : Acc B 5 1 H v (bs out) out.length) (c : UInt8) (h : out.length ≤ 100000000) (hB : B ≤ H.length) :
    ∃ v2 H2, pappend Tryz.prog H 22 22 v (.slice [.int .u8 (c.toNat : Int)] 1 true) = some (v2, H2) ∧ Acc B 5 1 H2 v2 (bs (out ++ [c])) (out ++ [c]).length ∧ (∀ H0, Kept B H0 H → Kept B H0 H2) := by
  obtain ⟨v2, H2, hap, hacc2, hg2, ho2⟩ := hacc.append (P := Tryz.prog) (t := 22) (tx := 22) (x := .slice [.int .u8 (c.toNat : Int)] 1 true) (news := bs [c]) (m := 1) Tryz.underlying22 sz5 by5 zc5 (by decide) rfl
    (by simp [appSrc, Tryz.underlying22, scells, bs]) rfl (by omega) (by omega) hB
  exact ⟨v2, H2, hap, by rw [bs_append, List.length_append]; exact hacc2, fun H0 hk => hk.grew hg2 (fun j hj => (hacc.own_ge j hj).1)⟩

theorem byt_get (p : List UInt8) (k : Nat) : byt p k = ((p.getD k 0).toNat : Int) := rfl
theorem drop_cons' (b : List UInt8) (k : Nat) (h : k < b.length) : b.drop k = b.getD k 0 :: b.drop (k + 1) := by
  rw [List.drop_eq_getElem_cons h]
  simp [h]
theorem run0_le (z : Nat) (c : UInt8) : run0 z c ≤ z + 1 := by unfold run0; split <;> omega

theorem unescape_ok (b : List UInt8) (full : Bool) (H : Heap) (hl : b.length ≤ 2000000) : CallOk Tryz.prog 24 [.slice (bs b) b.length full] H (.tup [bv (unR b).1, .int .i64 (unR b).2]) H := by
  refine CallOk.body (F0 := [(0, .slice (bs b) b.length full)]) Tryz.func24 rfl Tryz.ntmps24 Tryz.results24 rfl (by kernel_rfl) rfl ?_
  refine PW.seq ?_; (repeat refine PW.seq ?_); refine PW.rg rfl fun K hK => ?_; simp (maxSteps := 3000000) (disch := omega) only [go_sem, ↓reduceIte, reduceCtorEq, pappend, plen]; refine hK _ _ ?_; clear hK K
  refine PW.seq (PW.seq ?_); (repeat refine PW.seq ?_); refine PW.rg rfl fun K hK => ?_; simp (maxSteps := 3000000) (disch := omega) only [go_sem, ↓reduceIte, reduceCtorEq, pappend, plen]; refine VCx.call (ends0_ok b full H hl) rfl ?_; simp (maxSteps := 3000000) (disch := omega) only [go_sem, ↓reduceIte, reduceCtorEq, pappend, plen]; refine hK _ _ ?_; clear hK K
  (repeat refine PW.seq ?_); refine PW.cond (t := _) rfl (fun h => ?_) (fun h => ?_)
  · have he : unR b = ([], 3) := by rw [unR, if_pos h]
    rw [he]
    refine PW.seq ?_; (repeat refine PW.seq ?_); refine PW.rg rfl fun K hK => ?_; simp (maxSteps := 3000000) (disch := omega) only [go_sem, ↓reduceIte, reduceCtorEq, pappend, plen]; refine hK _ _ ?_; clear hK K
    exact PW.ret ⟨_, rfl, Fin.give (Kept.refl H) (Frz.tup2 (Frz.slice (bs_still [])) ((Still.int _ _).frz _ _))⟩
  have hu : unR b = match une 0 [] b with | none => ([], 3) | some p => (p, 0) := by rw [unR, if_neg (by simp [h])]
  refine PW.skip (PW.seq ?_); (repeat refine PW.seq ?_); refine PW.rg rfl fun K hK => ?_; simp (maxSteps := 3000000) (disch := omega) only [go_sem, ↓reduceIte, reduceCtorEq, pappend, plen, length_bs]; refine hK _ _ ?_; clear hK K
  refine PW.seq ?_; (repeat refine PW.seq ?_); refine PW.rg rfl fun K hK => ?_; simp (maxSteps := 3000000) (disch := omega) only [go_sem, ↓reduceIte, reduceCtorEq, pappend, plen]; refine hK _ _ ?_; clear hK K
  refine PW.seq (PW.seq ?_); (repeat refine PW.seq ?_); refine PW.rg rfl fun K hK => ?_; simp (maxSteps := 3000000) (disch := omega) only [go_sem, ↓reduceIte, reduceCtorEq, pappend, plen]; refine hK _ _ ?_; clear hK K
  refine PW.block (PW.loop ?_)
  suffices hloop : ∀ (k z : Nat) (out : List UInt8) (v : PV) (H1 : Heap), k ≤ b.length → z ≤ 2 → out.length ≤ k → une 0 [] b = une z out (b.drop k) → Acc H.length 5 1 H1 v (bs out) out.length → Kept H.length H H1 →
      PL Tryz.prog _ _ [(0, .slice (bs b) b.length full), (4, v), (5, .int .i64 (z : Int)), (6, .int .i64 (k : Int))] H1 _ by
    exact PL.keep [0, 4, 5, 6] (hloop 0 0 [] _ H (Nat.zero_le _) (by omega) (by simp) rfl (Acc.nil _ _ _ _) (Kept.refl H))
  intro k z out v H1 hk hz ho heq hacc hkept
  induction hm : b.length - k using Nat.strongRecOn generalizing k z out v H1 with
  | _ n ih =>
    refine PL.round (PW.seq (PW.seq ?_)); (repeat refine PW.seq ?_); refine PW.rg rfl fun K hK => ?_; simp (maxSteps := 3000000) (disch := omega) only [go_sem, ↓reduceIte, reduceCtorEq, pappend, plen, length_bs]; refine hK _ _ ?_; clear hK K
    (repeat refine PW.seq ?_); refine PW.cond (t := _) rfl (fun h => ?_) (fun h => ?_)
    · have h4 : k < b.length := by have := of_decide_eq_true h; omega
      have hby := byt_range b k
      have hc : byt b k = ((b.getD k 0).toNat : Int) := rfl
      rw [drop_cons' b k h4, une_cons] at heq
      refine PW.skip (PW.seq (PW.block (PW.seq ?_))); (repeat refine PW.seq ?_); refine PW.rg rfl fun K hK => ?_; simp (maxSteps := 3000000) (disch := omega) only [go_sem, ↓reduceIte, reduceCtorEq, pappend, plen, length_bs, bs_get]; refine hK _ _ ?_; clear hK K
      refine PW.join [0, 4, 5, 6, 7] (fun F' H' => ∃ (k1 z1 : Nat) (c1 : UInt8), F' = [(0, .slice (bs b) b.length full), (4, v), (5, .int .i64 (z1 : Int)), (6, .int .i64 (k1 : Int)), (7, .int .u8 (c1.toNat : Int))] ∧ H' = H1 ∧
        k ≤ k1 ∧ k1 < b.length ∧ z1 ≤ 2 ∧ (z1 = 2 → c1.toNat ≠ 0) ∧ une 0 [] b = une (run0 z1 c1) (out ++ [c1]) (b.drop (k1 + 1))) ?_ ?_
      · refine PW.seq (PW.rg1 [0, 4, 5, 6, 7, 27] [(0, .slice (bs b) b.length full), (4, v), (5, .int .i64 (z : Int)), (6, .int .i64 (k : Int)), (7, .int .u8 (byt b k)), (27, .bool (decide (z = 2 ∧ byt b k < 4)))] H1 rfl ?_ ?_)
        · by_cases h2 : z = 2
          · simp (maxSteps := 3000000) (disch := omega) only [go_sem, ↓reduceIte, reduceCtorEq, pappend, plen]
            try simp [h2]
          · simp (maxSteps := 3000000) (disch := omega) only [go_sem, ↓reduceIte, reduceCtorEq, pappend, plen]
            try simp [h2]
        (repeat refine PW.seq ?_); refine PW.cond (t := _) rfl (fun h => ?_) (fun h => ?_)
        · have h5 := of_decide_eq_true h
          rw [if_pos ⟨h5.1, by omega⟩] at heq
          have hb1 := byt_range b (k + 1)
          refine PW.seq (PW.seq (PW.rg1 [0, 4, 5, 6, 7, 44] [(0, .slice (bs b) b.length full), (4, v), (5, .int .i64 (z : Int)), (6, .int .i64 (k : Int)), (7, .int .u8 (byt b k)), (44, .bool (decide (byt b k < 3 ∨ k + 1 = b.length ∨ 4 ≤ byt b (k + 1))))] H1 rfl ?_ ?_))
          · by_cases h6 : byt b k < 3
            · simp (maxSteps := 3000000) (disch := omega) only [go_sem, ↓reduceIte, reduceCtorEq, pappend, plen, length_bs, bs_get]
              try simp [h6]
            · by_cases h7 : k + 1 = b.length
              · simp (maxSteps := 3000000) (disch := omega) only [go_sem, ↓reduceIte, reduceCtorEq, pappend, plen, length_bs, bs_get]
                try simp [h6, h7]
              · simp (maxSteps := 3000000) (disch := omega) only [go_sem, ↓reduceIte, reduceCtorEq, pappend, plen, length_bs, bs_get]
                try simp [h6, h7]
          (repeat refine PW.seq ?_); refine PW.cond (t := _) rfl (fun h => ?_) (fun h => ?_)
          · have h6 := of_decide_eq_true h
            have hn : une 0 [] b = none := by
              rw [heq]
              split
              · rfl
              · rename_i d r' hr
                rw [if_pos]
                have hlt : k + 1 < b.length := by
                  have := congrArg List.length hr
                  simp at this
                  omega
                rw [drop_cons' b (k + 1) hlt] at hr
                have e1 := (List.cons.inj hr).1
                have e2 : byt b (k + 1) = ((b.getD (k + 1) 0).toNat : Int) := rfl
                rw [e1] at e2
                omega
            rw [hu, hn]
            refine PW.seq ?_; (repeat refine PW.seq ?_); refine PW.rg rfl fun K hK => ?_; simp (maxSteps := 3000000) (disch := omega) only [go_sem, ↓reduceIte, reduceCtorEq, pappend, plen]; refine hK _ _ ?_; clear hK K
            exact PW.ret ⟨_, rfl, Fin.give hkept (Frz.tup2 (Frz.slice (bs_still [])) ((Still.int _ _).frz _ _))⟩
          · have h6 := of_decide_eq_false h
            have hlt : k + 1 < b.length := by omega
            refine PW.skip (PW.seq ?_); (repeat refine PW.seq ?_); refine PW.rg rfl fun K hK => ?_; simp (maxSteps := 3000000) (disch := omega) only [go_sem, ↓reduceIte, reduceCtorEq, pappend, plen]; refine hK _ _ ?_; clear hK K
            (repeat refine PW.seq ?_); refine PW.rg rfl fun K hK => ?_; simp (maxSteps := 3000000) (disch := omega) only [go_sem, ↓reduceIte, reduceCtorEq, pappend, plen, length_bs, bs_get]; refine hK _ _ ?_; clear hK K
            refine ⟨k + 1, 0, b.getD (k + 1) 0, rfl, rfl, by omega, hlt, by omega, by omega, ?_⟩
            rw [heq, drop_cons' b (k + 1) hlt]
            have e2 : byt b (k + 1) = ((b.getD (k + 1) 0).toNat : Int) := rfl
            simp only
            rw [if_neg (by omega)]
        · have h5 := of_decide_eq_false h
          rw [if_neg (by omega)] at heq
          exact PW.skip ⟨k, z, b.getD k 0, rfl, rfl, by omega, h4, hz, by omega, heq⟩
      · rintro F' H' ⟨k1, z1, c1, rfl, rfl, hk1, hk1', hz1, hzz, heq1⟩
        have hc1 := c1.toNat_lt
        obtain ⟨v2, H2, hap, hacc2, hk2⟩ := app_byte hacc c1 (by omega) hkept.1
        refine PW.seq ?_; (repeat refine PW.seq ?_); refine PW.rg rfl fun K hK => ?_; simp (maxSteps := 3000000) (disch := omega) only [go_sem, ↓reduceIte, reduceCtorEq, plen, hap]; refine hK _ _ ?_; clear hK K
        have hrun : (if (c1.toNat : Int) = 0 then (z1 : Int) + 1 else 0) = ((run0 z1 c1 : Nat) : Int) := by
          unfold run0
          by_cases h0 : c1.toNat = 0
          · rw [if_pos h0, if_pos (by omega)]; rfl
          · rw [if_neg h0, if_neg (by omega)]; rfl
        (repeat refine PW.seq ?_); refine PW.rg rfl fun K hK => ?_; simp (maxSteps := 3000000) (disch := omega) only [go_sem, ↓reduceIte, reduceCtorEq, pappend, plen]; refine VCx.call (run_ok (z1 : Int) (c1.toNat : Int) _ (by omega) (by omega)) rfl ?_; rw [hrun]; simp (maxSteps := 3000000) (disch := omega) only [go_sem, ↓reduceIte, reduceCtorEq, pappend, plen]; refine hK _ _ ?_; clear hK K
        (repeat refine PW.seq ?_); refine PW.rg rfl fun K hK => ?_; simp (maxSteps := 3000000) (disch := omega) only [go_sem, ↓reduceIte, reduceCtorEq, pappend, plen]; refine hK _ _ ?_; clear hK K
        refine PL.keep [0, 4, 5, 6] ?_
        have hr : run0 z1 c1 ≤ 2 := by unfold run0; split <;> omega
        refine ih (b.length - (k1 + 1)) (by omega) (k1 + 1) (run0 z1 c1) (out ++ [c1]) v2 H2 (by omega) hr (by simp; omega) heq1 hacc2 (hk2 _ hkept) rfl
    · have h4 : k = b.length := by have := of_decide_eq_false h; omega
      subst h4
      have hs : une 0 [] b = some out := by rw [heq]; simp [une]
      rw [hu, hs]
      refine PW.exit (PW.seq ?_); (repeat refine PW.seq ?_); refine PW.rg rfl fun K hK => ?_; simp (maxSteps := 3000000) (disch := omega) only [go_sem, ↓reduceIte, reduceCtorEq, pappend, plen]; refine hK _ _ ?_; clear hK K
      exact PW.ret ⟨_, rfl, Fin.give hkept (Frz.tup2 (Frz.acc hacc (bs_still _)) ((Still.int _ _).frz _ _))⟩

end Go.Proofs.YtbhdollgohgkgaaGreatDoor.S3

namespace Go.Proofs.YtbhdollgohgkgaaGreatDoor.S3
set_option linter.all false
set_option linter.unusedVariables false
set_option linter.unusedSimpArgs false
open Pm Ty Sc Go.RowKit
set_option maxRecDepth 100000

/-- The reference's first walk: what is left without the bytes 3 behind two bytes 0. -/
def ru : Nat → List UInt8 → List UInt8 → List UInt8
  | _, acc, [] => acc
  | z, acc, c :: r => if z = 2 ∧ c.toNat = 3 then ru 0 acc r else ru (if c.toNat = 0 then min (z + 1) 2 else 0) (acc ++ [c]) r
theorem ru_cons (z : Nat) (acc : List UInt8) (c : UInt8) (r : List UInt8) : ru z acc (c :: r) = if z = 2 ∧ c.toNat = 3 then ru 0 acc r else ru (if c.toNat = 0 then min (z + 1) 2 else 0) (acc ++ [c]) r := rfl
theorem ru_escL : ∀ (p acc : List UInt8) (z : Nat), z ≤ 2 → ru z acc (escL z p) = acc ++ p
  | [], acc, z, _ => by simp [escL, ru]
  | c :: r, acc, z, hz => by
    unfold escL
    by_cases h : z = 2 ∧ c.toNat < 4
    · rw [if_pos h, ru_cons, if_pos ⟨h.1, rfl⟩, ru_cons, if_neg (by omega)]
      have e : (if c.toNat = 0 then min (0 + 1) 2 else 0) = run0 0 c := by unfold run0; split <;> rfl
      rw [e, ru_escL r _ _ (by have := run0_le 0 c; omega)]
      simp
    · rw [if_neg h, ru_cons, if_neg (by omega)]
      have e : (if c.toNat = 0 then min (z + 1) 2 else 0) = run0 z c := by
        unfold run0
        by_cases h0 : c.toNat = 0
        · rw [if_pos h0, if_pos h0]; omega
        · rw [if_neg h0, if_neg h0]
      rw [e, ru_escL r _ _ (by unfold run0; split <;> omega)]
      simp
theorem ru_len : ∀ (b acc : List UInt8) (z : Nat), (ru z acc b).length ≤ acc.length + b.length
  | [], acc, z => by simp [ru]
  | c :: r, acc, z => by
    rw [ru_cons]
    split
    · have := ru_len r acc 0; simp; omega
    · have := ru_len r (acc ++ [c]) (if c.toNat = 0 then min (z + 1) 2 else 0); simp at this ⊢; omega
theorem unR_ref (b : List UInt8) : unR b = if (escR (ru 0 [] b)).2 ≠ 0 ∨ b ≠ (escR (ru 0 [] b)).1 then ([], 3) else (ru 0 [] b, 0) := by
  rcases unR_cases b with h | ⟨p, h⟩
  · rw [h, if_pos]
    by_cases h2 : (escR (ru 0 [] b)).2 = 0
    · right
      intro h1
      have : escR (ru 0 [] b) = (b, 0) := Prod.ext h1.symm h2
      rw [une_nil_escR this] at h
      simp at h
    · exact .inl h2
  · have he := escR_unR h
    have hr : ru 0 [] b = p := by
      rcases escR_cases p with h1 | h1
      · rw [h1] at he; simp at he
      · rw [h1] at he
        have : b = escL 0 p := by rw [← esc_eq]; exact (Prod.mk.inj he).1.symm
        rw [this, ru_escL p [] 0 (by omega)]
        rfl
    rw [h, hr, he, if_neg (by simp)]

theorem unescape_ref (b : List UInt8) (full : Bool) (H : Heap) (hl : b.length ≤ 400000) : CallOk Tryz.prog 33 [.slice (bs b) b.length full] H (.tup [bv (unR b).1, .int .i64 (unR b).2]) H := by
  refine CallOk.body (F0 := [(0, .slice (bs b) b.length full)]) Tryz.func33 rfl Tryz.ntmps33 Tryz.results33 rfl (by kernel_rfl) rfl ?_
  refine PW.seq ?_; (repeat refine PW.seq ?_); refine PW.rg rfl fun K hK => ?_; simp (maxSteps := 3000000) (disch := omega) only [go_sem, ↓reduceIte, reduceCtorEq, pappend, plen]; refine hK _ _ ?_; clear hK K
  refine PW.seq ?_; (repeat refine PW.seq ?_); refine PW.rg rfl fun K hK => ?_; simp (maxSteps := 3000000) (disch := omega) only [go_sem, ↓reduceIte, reduceCtorEq, pappend, plen]; refine hK _ _ ?_; clear hK K
  refine PW.seq ?_; (repeat refine PW.seq ?_); refine PW.rg rfl fun K hK => ?_; simp (maxSteps := 3000000) (disch := omega) only [go_sem, ↓reduceIte, reduceCtorEq, pappend, plen]; refine hK _ _ ?_; clear hK K
  refine PW.seq (PW.seq ?_); (repeat refine PW.seq ?_); refine PW.rg rfl fun K hK => ?_; simp (maxSteps := 3000000) (disch := omega) only [go_sem, ↓reduceIte, reduceCtorEq, pappend, plen]; refine hK _ _ ?_; clear hK K
  refine PW.block (PW.loop ?_)
  suffices hloop : ∀ (k z : Nat) (out : List UInt8) (v : PV) (H1 : Heap), k ≤ b.length → z ≤ 2 → out.length ≤ k → ru 0 [] b = ru z out (b.drop k) → Acc H.length 5 1 H1 v (bs out) out.length → Kept H.length H H1 →
      PL Tryz.prog _ _ [(0, .slice (bs b) b.length full), (4, v), (5, .int .i64 (z : Int)), (6, .int .i64 (k : Int))] H1 _ by
    exact PL.keep [0, 4, 5, 6] (hloop 0 0 [] _ H (Nat.zero_le _) (by omega) (by simp) rfl (Acc.nil _ _ _ _) (Kept.refl H))
  intro k z out v H1 hk hz ho heq hacc hkept
  induction hm : b.length - k using Nat.strongRecOn generalizing k z out v H1 with
  | _ n ih =>
    refine PL.round (PW.seq (PW.seq ?_)); (repeat refine PW.seq ?_); refine PW.rg rfl fun K hK => ?_; simp (maxSteps := 3000000) (disch := omega) only [go_sem, ↓reduceIte, reduceCtorEq, pappend, plen, length_bs]; refine hK _ _ ?_; clear hK K
    (repeat refine PW.seq ?_); refine PW.cond (t := _) rfl (fun h => ?_) (fun h => ?_)
    · have h4 : k < b.length := by have := of_decide_eq_true h; omega
      have hby := byt_range b k
      have hc : byt b k = ((b.getD k 0).toNat : Int) := rfl
      rw [drop_cons' b k h4, ru_cons] at heq
      refine PW.skip (PW.seq (PW.block ?_))
      refine PW.seq (PW.seq (PW.rg1 [0, 4, 5, 6, 23] [(0, .slice (bs b) b.length full), (4, v), (5, .int .i64 (z : Int)), (6, .int .i64 (k : Int)), (23, .bool (decide (z = 2 ∧ byt b k = 3)))] H1 rfl ?_ ?_))
      · by_cases h2 : z = 2
        · simp (maxSteps := 3000000) (disch := omega) only [go_sem, ↓reduceIte, reduceCtorEq, pappend, plen, length_bs, bs_get]
          try simp [h2]
          rw [Bool.eq_iff_iff]; simp
        · simp (maxSteps := 3000000) (disch := omega) only [go_sem, ↓reduceIte, reduceCtorEq, pappend, plen, length_bs, bs_get]
          try simp [h2]
      (repeat refine PW.seq ?_); refine PW.cond (t := _) rfl (fun h => ?_) (fun h => ?_)
      · have h5 := of_decide_eq_true h
        rw [if_pos ⟨h5.1, by omega⟩] at heq
        refine PW.seq ?_; (repeat refine PW.seq ?_); refine PW.rg rfl fun K hK => ?_; simp (maxSteps := 3000000) (disch := omega) only [go_sem, ↓reduceIte, reduceCtorEq, pappend, plen]; refine hK _ _ ?_; clear hK K
        refine PW.exit ?_
        (repeat refine PW.seq ?_); refine PW.rg rfl fun K hK => ?_; simp (maxSteps := 3000000) (disch := omega) only [go_sem, ↓reduceIte, reduceCtorEq, pappend, plen]; refine hK _ _ ?_; clear hK K
        refine PL.keep [0, 4, 5, 6] ?_
        exact ih (b.length - (k + 1)) (by omega) (k + 1) 0 out v H1 (by omega) (by omega) (by omega) heq hacc hkept rfl
      · have h5 := of_decide_eq_false h
        rw [if_neg (by omega)] at heq
        obtain ⟨v2, H2, hap, hacc2, hk2⟩ := app_byte hacc (b.getD k 0) (by omega) hkept.1
        rw [← byt_get] at hap
        refine PW.skip (PW.seq ?_); (repeat refine PW.seq ?_); refine PW.rg rfl fun K hK => ?_; simp (maxSteps := 3000000) (disch := omega) only [go_sem, ↓reduceIte, reduceCtorEq, plen, hap, length_bs, bs_get]; refine hK _ _ ?_; clear hK K
        refine PW.seq ?_; (repeat refine PW.seq ?_); refine PW.rg rfl fun K hK => ?_; simp (maxSteps := 3000000) (disch := omega) only [go_sem, ↓reduceIte, reduceCtorEq, pappend, plen, length_bs, bs_get]; refine hK _ _ ?_; clear hK K
        (repeat refine PW.seq ?_); refine PW.cond (t := _) rfl (fun h => ?_) (fun h => ?_)
        · have h6 : (b.getD k 0).toNat = 0 := by have : byt b k = 0 := by simpa using h
                                                 omega
          rw [if_pos h6] at heq
          have hmin : (if (2 : Int) < (z : Int) + 1 then (2 : Int) else (z : Int) + 1) = ((min (z + 1) 2 : Nat) : Int) := by split <;> omega
          (repeat refine PW.seq ?_); refine PW.rg rfl fun K hK => ?_; simp (maxSteps := 3000000) (disch := omega) only [go_sem, ↓reduceIte, reduceCtorEq, pappend, plen, hmin]; refine hK _ _ ?_; clear hK K
          (repeat refine PW.seq ?_); refine PW.rg rfl fun K hK => ?_; simp (maxSteps := 3000000) (disch := omega) only [go_sem, ↓reduceIte, reduceCtorEq, pappend, plen]; refine hK _ _ ?_; clear hK K
          refine PL.keep [0, 4, 5, 6] ?_
          refine ih (b.length - (k + 1)) (by omega) (k + 1) (min (z + 1) 2) (out ++ [b.getD k 0]) v2 H2 (by omega) (by omega) (by simp; omega) heq hacc2 (hk2 _ hkept) rfl
        · have h6 : ¬ (b.getD k 0).toNat = 0 := by have : ¬ byt b k = 0 := by simpa using h
                                                   omega
          rw [if_neg h6] at heq
          (repeat refine PW.seq ?_); refine PW.rg rfl fun K hK => ?_; simp (maxSteps := 3000000) (disch := omega) only [go_sem, ↓reduceIte, reduceCtorEq, pappend, plen]; refine hK _ _ ?_; clear hK K
          (repeat refine PW.seq ?_); refine PW.rg rfl fun K hK => ?_; simp (maxSteps := 3000000) (disch := omega) only [go_sem, ↓reduceIte, reduceCtorEq, pappend, plen]; refine hK _ _ ?_; clear hK K
          refine PL.keep [0, 4, 5, 6] ?_
          refine ih (b.length - (k + 1)) (by omega) (k + 1) 0 (out ++ [b.getD k 0]) v2 H2 (by omega) (by omega) (by simp; omega) heq hacc2 (hk2 _ hkept) rfl
    · have h4 : k = b.length := by have := of_decide_eq_false h; omega
      subst h4
      have hs : ru 0 [] b = out := by rw [heq]; simp [ru]
      rw [unR_ref, hs]
      have hlo : out.length ≤ b.length := ho
      refine PW.exit ?_
      refine PW.give [0, 4] [(0, .slice (bs b) b.length false), (4, .slice (bs out) out.length false)] hkept ⟨rfl, Frz.slice (bs_still _), rfl, Frz.acc hacc (bs_still _), trivial⟩ ?_
      clear hacc hkept ih heq
      refine PW.seq ?_; (repeat refine PW.seq ?_); refine PW.rg rfl fun K hK => ?_; simp (maxSteps := 3000000) (disch := omega) only [go_sem, ↓reduceIte, reduceCtorEq, pappend, plen]; refine VCx.call (escape_ref out false _ (by omega)) rfl ?_; simp (maxSteps := 3000000) (disch := omega) only [go_sem, ↓reduceIte, reduceCtorEq, pappend, plen]; refine hK _ _ ?_; clear hK K
      rcases escR_cases out with he | he
      · rw [he]
        refine PW.seq (PW.seq ?_); (repeat refine PW.seq ?_); refine PW.rg rfl fun K hK => ?_; simp (maxSteps := 3000000) (disch := omega) only [go_sem, ↓reduceIte, reduceCtorEq, pappend, plen]; refine hK _ _ ?_; clear hK K
        refine PW.cond (t := _) rfl (fun _ => ?_) (fun h => by cases h)
        refine PW.seq ?_; (repeat refine PW.seq ?_); refine PW.rg rfl fun K hK => ?_; simp (maxSteps := 3000000) (disch := omega) only [go_sem, ↓reduceIte, reduceCtorEq, pappend, plen]; refine hK _ _ ?_; clear hK K
        exact PW.ret ⟨_, rfl, Fin.give (Kept.refl H) (Frz.tup2 (Frz.slice (bs_still [])) ((Still.int _ _).frz _ _))⟩
      · rw [he]
        refine PW.seq (PW.seq ?_); (repeat refine PW.seq ?_); refine PW.rg rfl fun K hK => ?_; simp (maxSteps := 3000000) (disch := omega) only [go_sem, ↓reduceIte, reduceCtorEq, pappend, plen]; refine VCx.call (same_okP b (esc out) false false _) rfl ?_; simp (maxSteps := 3000000) (disch := omega) only [go_sem, ↓reduceIte, reduceCtorEq, pappend, plen]; refine hK _ _ ?_; clear hK K
        (repeat refine PW.seq ?_); refine PW.cond (t := _) rfl (fun h => ?_) (fun h => ?_)
        · have h7 : b ≠ esc out := by simpa using h
          rw [if_pos (.inr h7)]
          refine PW.seq ?_; (repeat refine PW.seq ?_); refine PW.rg rfl fun K hK => ?_; simp (maxSteps := 3000000) (disch := omega) only [go_sem, ↓reduceIte, reduceCtorEq, pappend, plen]; refine hK _ _ ?_; clear hK K
          exact PW.ret ⟨_, rfl, Fin.give (Kept.refl H) (Frz.tup2 (Frz.slice (bs_still [])) ((Still.int _ _).frz _ _))⟩
        · have h7 : b = esc out := by simpa using h
          rw [if_neg (by simp [← h7])]
          refine PW.skip (PW.seq ?_); (repeat refine PW.seq ?_); refine PW.rg rfl fun K hK => ?_; simp (maxSteps := 3000000) (disch := omega) only [go_sem, ↓reduceIte, reduceCtorEq, pappend, plen]; refine hK _ _ ?_; clear hK K
          exact PW.ret ⟨_, rfl, Fin.give (Kept.refl H) (Frz.tup2 (Frz.slice (bs_still _)) ((Still.int _ _).frz _ _))⟩

theorem unR_len (b : List UInt8) : (unR b).1.length ≤ b.length := by
  rw [unR_ref]
  split
  · simp
  · have := ru_len b [] 0; simpa using this

end Go.Proofs.YtbhdollgohgkgaaGreatDoor.S3

namespace Go.Proofs.YtbhdollgohgkgaaGreatDoor.S3
set_option linter.all false
set_option linter.unusedVariables false
set_option linter.unusedSimpArgs false
open Pm Ty Sc Go.RowKit
set_option maxRecDepth 100000

/-! ### no start code within -/
end Go.Proofs.YtbhdollgohgkgaaGreatDoor.S3

namespace Go.Proofs.YtbhdollgohgkgaaGreatDoor.S3
set_option linter.all false
set_option linter.unusedVariables false
set_option linter.unusedSimpArgs false
open Pm Ty Sc Go.RowKit
set_option maxRecDepth 100000

/-! ### the model -/
def trm (b : List UInt8) (lo : Nat) : Nat → Nat
  | 0 => 0
  | k + 1 => if lo ≤ k ∧ byt b k = 0 then trm b lo k else k + 1
theorem trm_le (b : List UInt8) (lo : Nat) : ∀ k, trm b lo k ≤ k
  | 0 => Nat.le_refl _
  | k + 1 => by rw [trm]; split; have := trm_le b lo k; omega; omega
theorem trm_ge (b : List UInt8) (lo : Nat) : ∀ k, lo ≤ k → lo ≤ trm b lo k
  | 0, h => h
  | k + 1, h => by
    rw [trm]
    split
    · exact trm_ge b lo k (by omega)
    · exact h
theorem trm_step (b : List UInt8) (lo k : Nat) (h : lo < k ∧ byt b (k - 1) = 0) : trm b lo k = trm b lo (k - 1) := by
  obtain ⟨j, rfl⟩ : ∃ j, k = j + 1 := ⟨k - 1, by omega⟩
  rw [trm, if_pos ⟨by omega, h.2⟩]
  rfl
theorem trm_stop (b : List UInt8) (lo k : Nat) (h : ¬ (lo < k ∧ byt b (k - 1) = 0)) : trm b lo k = k := by
  cases k with
  | zero => rfl
  | succ k => rw [trm, if_neg (fun hh => h ⟨by omega, hh.2⟩)]
theorem nxt_le (p : List UInt8) (i : Nat) : nxt p i ≤ p.length := by
  induction hm : p.length - i using Nat.strongRecOn generalizing i with
  | _ n ih =>
    rw [nxt]
    split
    · split
      · omega
      · exact ih (p.length - (i + 1)) (by omega) (i + 1) rfl
    · exact Nat.le_refl _
theorem nxt_ge (p : List UInt8) (i : Nat) (h : i ≤ p.length) : i ≤ nxt p i := by
  induction hm : p.length - i using Nat.strongRecOn generalizing i with
  | _ n ih =>
    rw [nxt]
    split
    · split
      · exact Nat.le_refl _
      · have := ih (p.length - (i + 1)) (by omega) (i + 1) (by omega) rfl; omega
    · exact h
theorem nxt_room (p : List UInt8) (i : Nat) (h : nxt p i < p.length) : nxt p i + 4 ≤ p.length := by
  induction hm : p.length - i using Nat.strongRecOn generalizing i with
  | _ n ih =>
    rw [nxt] at h ⊢
    split
    · rename_i h4
      rw [if_pos h4] at h
      split
      · exact h4
      · rename_i hc
        rw [if_neg hc] at h
        exact ih (p.length - (i + 1)) (by omega) (i + 1) h rfl
    · rename_i h4
      rw [if_neg h4] at h
      omega
def part (b : List UInt8) (i j : Nat) : List UInt8 := (b.drop i).take (j - i)
theorem part_len (b : List UInt8) (i j : Nat) (h : j ≤ b.length) : (part b i j).length = j - i := by simp [part]; omega
theorem bs_part (b : List UInt8) (i j : Nat) : ((bs b).drop i).take (j - i) = bs (part b i j) := by simp [bs, part]

structure Fnd where
  t : Int
  p : List UInt8
  fr : Nat
  to : Nat
  nx : Nat
def fd (x : Fnd) : List PV := [.int .i64 x.t, bv x.p, .int .i64 x.fr, .int .i64 x.to, .int .i64 x.nx]
def fc (l : List Fnd) : List PV := l.flatMap fd
def dd (x : Nat × Nat) : List PV := [.int .i64 x.1, .int .i64 x.2]
def dc (l : List (Nat × Nat)) : List PV := l.flatMap dd
theorem fc_append (l m : List Fnd) : fc (l ++ m) = fc l ++ fc m := by simp [fc]
theorem dc_append (l m : List (Nat × Nat)) : dc (l ++ m) = dc l ++ dc m := by simp [dc]
theorem bv_still (p : List UInt8) : Still (bv p) := Still.slice (bs_still p)
theorem fc_still (l : List Fnd) : ∀ x ∈ fc l, Still x := fun x hx => by
  obtain ⟨u, _, hu⟩ := List.mem_flatMap.1 hx
  simp only [fd, List.mem_cons, List.not_mem_nil, or_false] at hu
  rcases hu with rfl | rfl | rfl | rfl | rfl
  · exact .int _ _
  · exact bv_still _
  all_goals exact .int _ _
theorem dc_still (l : List (Nat × Nat)) : ∀ x ∈ dc l, Still x := fun x hx => by
  obtain ⟨u, _, hu⟩ := List.mem_flatMap.1 hx
  simp only [dd, List.mem_cons, List.not_mem_nil, or_false] at hu
  rcases hu with rfl | rfl
  all_goals exact .int _ _

def splF (b : List UInt8) : Nat → Nat → List Fnd → List (Nat × Nat) → List Fnd × List (Nat × Nat)
  | 0, _, us, ds => (us, ds)
  | n + 1, i, us, ds =>
    if i < b.length then
      if (unR (part b (i + 4) (trm b (i + 4) (nxt b (i + 4))))).2 = 0 then
        splF b n (nxt b (i + 4)) (us ++ [⟨byt b (i + 3), (unR (part b (i + 4) (trm b (i + 4) (nxt b (i + 4))))).1, i, trm b (i + 4) (nxt b (i + 4)), nxt b (i + 4)⟩]) ds
      else splF b n (nxt b (i + 4)) us (ds ++ [(i, trm b (i + 4) (nxt b (i + 4)))])
    else (us, ds)
def spl (b : List UInt8) : List Fnd × List (Nat × Nat) := splF b (b.length + 1) (nxt b 0) [] (if 0 < trm b 0 (nxt b 0) then [(0, nxt b 0)] else [])

theorem trim_ok (b : List UInt8) (full : Bool) (lo hi : Nat) (H : Heap) (hl : b.length ≤ 2000000) (hi' : hi ≤ b.length) (hlo : lo ≤ 2000010) :
    CallOk Tryz.prog 23 [.slice (bs b) b.length full, .int .i64 (lo : Int), .int .i64 (hi : Int)] H (.int .i64 (trm b lo hi : Int)) H := by
  generalize hr : trm b lo hi = r
  refine CallOk.body (F0 := [(0, .slice (bs b) b.length full), (1, .int .i64 (lo : Int)), (2, .int .i64 (hi : Int))]) Tryz.func23 rfl Tryz.ntmps23 Tryz.results23 rfl (by kernel_rfl) rfl ?_
  refine PW.seq ?_; (repeat refine PW.seq ?_); refine PW.rg rfl fun K hK => ?_; simp (maxSteps := 3000000) (disch := omega) only [go_sem, ↓reduceIte, reduceCtorEq, pappend, plen]; refine hK _ _ ?_; clear hK K
  refine PW.seq (PW.block (PW.loop ?_))
  refine PL.keep [0, 1, 2] (?_ : PL _ _ _ [(0, .slice (bs b) b.length full), (1, .int .i64 (lo : Int)), (2, .int .i64 (hi : Int))] _ _)
  induction hm : hi using Nat.strongRecOn generalizing hi with
  | _ n ih =>
    subst hm
    refine PL.round (PW.seq (PW.seq (PW.rg1 [0, 1, 2, 17] [(0, .slice (bs b) b.length full), (1, .int .i64 (lo : Int)), (2, .int .i64 (hi : Int)), (17, .bool (decide (lo < hi ∧ byt b (hi - 1) = 0)))] H rfl ?_ ?_)))
    · by_cases h1 : lo < hi
      · have e : ((hi : Int) - 1) = ((hi - 1 : Nat) : Int) := by omega
        simp (maxSteps := 3000000) (disch := omega) only [go_sem, ↓reduceIte, reduceCtorEq, pappend, plen, length_bs, bs_get, e]
        try simp [h1]
        rw [Bool.eq_iff_iff]; simp
      · simp (maxSteps := 3000000) (disch := omega) only [go_sem, ↓reduceIte, reduceCtorEq, pappend, plen, length_bs, bs_get]
        try simp [h1]
    (repeat refine PW.seq ?_); refine PW.cond (t := _) rfl (fun h => ?_) (fun h => ?_)
    · have h4 := of_decide_eq_true h
      refine PW.skip (PW.block ?_); (repeat refine PW.seq ?_); refine PW.rg rfl fun K hK => ?_; simp (maxSteps := 3000000) (disch := omega) only [go_sem, ↓reduceIte, reduceCtorEq, pappend, plen]; refine hK _ _ ?_; clear hK K
      refine PL.keep [0, 1, 2] ?_
      have e : ((hi : Int) - 1) = ((hi - 1 : Nat) : Int) := by omega
      have := ih (hi - 1) (by omega) (hi - 1) (by omega) (by rw [← hr, trm_step b lo hi h4]) rfl
      rw [← e] at this
      exact this
    · have h4 := of_decide_eq_false h
      rw [trm_stop b lo hi h4] at hr
      subst hr
      refine PW.exit (PW.seq ?_); (repeat refine PW.seq ?_); refine PW.rg rfl fun K hK => ?_; simp (maxSteps := 3000000) (disch := omega) only [go_sem, ↓reduceIte, reduceCtorEq, pappend, plen]; refine hK _ _ ?_; clear hK K
      exact PW.ret ⟨_, rfl, .inl ⟨rfl, rfl⟩⟩

theorem next_ref (p : List UInt8) (full : Bool) (i : Nat) (H : Heap) (hl : p.length ≤ 1000000) (hi : i ≤ 1000010) : CallOk Tryz.prog 31 [.slice (bs p) p.length full, .int .i64 (i : Int)] H (.int .i64 (nxt p i : Int)) H := by
  generalize hr : nxt p i = r
  refine CallOk.body (F0 := [(0, .slice (bs p) p.length full), (1, .int .i64 (i : Int))]) Tryz.func31 rfl Tryz.ntmps31 Tryz.results31 rfl (by kernel_rfl) rfl ?_
  refine PW.seq ?_; (repeat refine PW.seq ?_); refine PW.rg rfl fun K hK => ?_; simp (maxSteps := 3000000) (disch := omega) only [go_sem, ↓reduceIte, reduceCtorEq, pappend, plen]; refine hK _ _ ?_; clear hK K
  refine PW.seq (PW.block (PW.loop ?_))
  refine PL.keep [0, 1] (?_ : PL _ _ _ [(0, .slice (bs p) p.length full), (1, .int .i64 (i : Int))] _ _)
  induction hm : p.length - i using Nat.strongRecOn generalizing i with
  | _ n ih =>
    refine PL.round (PW.seq (PW.seq ?_)); (repeat refine PW.seq ?_); refine PW.rg rfl fun K hK => ?_; simp (maxSteps := 3000000) (disch := omega) only [go_sem, ↓reduceIte, reduceCtorEq, pappend, plen]; refine hK _ _ ?_; clear hK K
    (repeat refine PW.seq ?_); refine PW.cond (t := _) rfl (fun h => ?_) (fun h => ?_)
    · have h4 : i + 4 ≤ p.length := by have := of_decide_eq_true h; omega
      refine PW.skip (PW.seq (PW.block (PW.seq ?_)))
      refine PW.rg1 [0, 1, 40] [(0, .slice (bs p) p.length full), (1, .int .i64 (i : Int)), (40, .bool (code p i))] H rfl ?_ ?_
      · by_cases h1 : byt p i = 0 <;> by_cases h2 : byt p (i + 1) = 0 <;> by_cases h3 : byt p (i + 2) = 1
        all_goals simp (maxSteps := 3000000) (disch := omega) only [go_sem, ↓reduceIte, reduceCtorEq, pappend, plen, length_bs, bs_get]
        all_goals simp [code, h1, h2, h3]
      (repeat refine PW.seq ?_); refine PW.cond (t := _) rfl (fun h => ?_) (fun h => ?_)
      · refine PW.seq ?_; (repeat refine PW.seq ?_); refine PW.rg rfl fun K hK => ?_; simp (maxSteps := 3000000) (disch := omega) only [go_sem, ↓reduceIte, reduceCtorEq, pappend, plen]; refine hK _ _ ?_; clear hK K
        refine PW.ret ⟨_, rfl, .inl ⟨?_, rfl⟩⟩
        rw [← hr, nxt, if_pos h4, if_pos h]; rfl
      · refine PW.skip ?_
        (repeat refine PW.seq ?_); refine PW.rg rfl fun K hK => ?_; simp (maxSteps := 3000000) (disch := omega) only [go_sem, ↓reduceIte, reduceCtorEq, pappend, plen]; refine hK _ _ ?_; clear hK K
        refine PL.keep [0, 1] ?_
        refine ih (p.length - (i + 1)) (by omega) (i + 1) (by omega) ?_ rfl
        rw [← hr, nxt.eq_def p i, if_pos h4, if_neg (by simp [h])]
    · have h4 : ¬ i + 4 ≤ p.length := by have := of_decide_eq_false h; omega
      refine PW.exit (PW.seq ?_); (repeat refine PW.seq ?_); refine PW.rg rfl fun K hK => ?_; simp (maxSteps := 3000000) (disch := omega) only [go_sem, ↓reduceIte, reduceCtorEq, pappend, plen]; refine hK _ _ ?_; clear hK K
      refine PW.ret ⟨_, rfl, .inl ⟨?_, rfl⟩⟩
      rw [← hr, nxt, if_neg h4]; rfl

def zeros (b : List UInt8) : Bool := b.all fun c => c.toNat == 0
theorem clean_ok (b : List UInt8) (full : Bool) (H : Heap) (hl : b.length ≤ 1000000) : CallOk Tryz.prog 32 [.slice (bs b) b.length full] H (.bool (zeros b)) H := by
  refine CallOk.body (F0 := [(0, .slice (bs b) b.length full)]) Tryz.func32 rfl Tryz.ntmps32 Tryz.results32 rfl (by kernel_rfl) rfl ?_
  refine PW.seq ?_; (repeat refine PW.seq ?_); refine PW.rg rfl fun K hK => ?_; simp (maxSteps := 3000000) (disch := omega) only [go_sem, ↓reduceIte, reduceCtorEq, pappend, plen]; refine hK _ _ ?_; clear hK K
  refine PW.seq (PW.seq ?_); (repeat refine PW.seq ?_); refine PW.rg rfl fun K hK => ?_; simp (maxSteps := 3000000) (disch := omega) only [go_sem, ↓reduceIte, reduceCtorEq, pappend, plen]; refine hK _ _ ?_; clear hK K
  refine PW.block (PW.loop ?_)
  suffices hloop : ∀ (k : Nat), k ≤ b.length → zeros b = zeros (b.drop k) → PL Tryz.prog _ _ [(0, .slice (bs b) b.length full), (3, .int .i64 (k : Int))] H _ by
    exact PL.keep [0, 3] (hloop 0 (Nat.zero_le _) rfl)
  intro k hk heq
  induction hm : b.length - k using Nat.strongRecOn generalizing k with
  | _ n ih =>
    refine PL.round (PW.seq (PW.seq ?_)); (repeat refine PW.seq ?_); refine PW.rg rfl fun K hK => ?_; simp (maxSteps := 3000000) (disch := omega) only [go_sem, ↓reduceIte, reduceCtorEq, pappend, plen, length_bs]; refine hK _ _ ?_; clear hK K
    (repeat refine PW.seq ?_); refine PW.cond (t := _) rfl (fun h => ?_) (fun h => ?_)
    · have h4 : k < b.length := by have := of_decide_eq_true h; omega
      have hc : byt b k = ((b.getD k 0).toNat : Int) := rfl
      have hz : zeros (b.drop k) = ((b.getD k 0).toNat == 0 && zeros (b.drop (k + 1))) := by rw [drop_cons' b k h4]; rfl
      refine PW.skip (PW.seq (PW.block (PW.seq ?_))); (repeat refine PW.seq ?_); refine PW.rg rfl fun K hK => ?_; simp (maxSteps := 3000000) (disch := omega) only [go_sem, ↓reduceIte, reduceCtorEq, pappend, plen, length_bs, bs_get]; refine hK _ _ ?_; clear hK K
      (repeat refine PW.seq ?_); refine PW.cond (t := _) rfl (fun h => ?_) (fun h => ?_)
      · have h5 : ¬ (b.getD k 0).toNat = 0 := by have : byt b k ≠ 0 := by simpa using h
                                                 omega
        refine PW.seq ?_; (repeat refine PW.seq ?_); refine PW.rg rfl fun K hK => ?_; simp (maxSteps := 3000000) (disch := omega) only [go_sem, ↓reduceIte, reduceCtorEq, pappend, plen]; refine hK _ _ ?_; clear hK K
        refine PW.ret ⟨_, rfl, .inl ⟨?_, rfl⟩⟩
        rw [heq, hz]
        have h6 : ((b.getD k 0).toNat == 0) = false := by simpa using h5
        rw [h6]; rfl
      · have h5 : (b.getD k 0).toNat = 0 := by have : byt b k = 0 := by simpa using h
                                               omega
        refine PW.skip ?_; (repeat refine PW.seq ?_); refine PW.rg rfl fun K hK => ?_; simp (maxSteps := 3000000) (disch := omega) only [go_sem, ↓reduceIte, reduceCtorEq, pappend, plen]; refine hK _ _ ?_; clear hK K
        refine PL.keep [0, 3] ?_
        refine ih (b.length - (k + 1)) (by omega) (k + 1) (by omega) ?_ rfl
        rw [heq, hz, h5]; rfl
    · have h4 : k = b.length := by have := of_decide_eq_false h; omega
      subst h4
      refine PW.exit (PW.seq ?_); (repeat refine PW.seq ?_); refine PW.rg rfl fun K hK => ?_; simp (maxSteps := 3000000) (disch := omega) only [go_sem, ↓reduceIte, reduceCtorEq, pappend, plen]; refine hK _ _ ?_; clear hK K
      refine PW.ret ⟨_, rfl, .inl ⟨?_, rfl⟩⟩
      rw [heq]; simp [zeros, slot, Nat.beq]
theorem zeros_trm (b : List UInt8) : ∀ k, k ≤ b.length → (zeros (b.take k) = true ↔ trm b 0 k = 0)
  | 0, _ => by simp [zeros, trm]
  | k + 1, h => by
    have e : b.take (k + 1) = b.take k ++ [b.getD k 0] := take_succ_byte b k (by omega)
    have ih := zeros_trm b k (by omega)
    have hc : byt b k = ((b.getD k 0).toNat : Int) := rfl
    have hz : zeros (b.take (k + 1)) = (zeros (b.take k) && (b.getD k 0).toNat == 0) := by rw [e]; simp [zeros]
    rw [hz, trm]
    by_cases h0 : (b.getD k 0).toNat = 0
    · rw [if_pos ⟨by omega, by omega⟩, ← ih, h0]; simp
    · have h1 : ((b.getD k 0).toNat == 0) = false := by simpa using h0
      rw [if_neg (by omega), h1]; simp

end Go.Proofs.YtbhdollgohgkgaaGreatDoor.S3

namespace Go.Proofs.YtbhdollgohgkgaaGreatDoor.S3
set_option linter.all false
set_option linter.unusedVariables false
set_option linter.unusedSimpArgs false
open Pm Ty Sc Go.RowKit
set_option maxRecDepth 100000

end Go.Proofs.YtbhdollgohgkgaaGreatDoor.S3
