/-
  Parts of the proof, put together in one text. No condition.
-/
import Derived.Test.YtcabpncdgagihaaGj
import Derived.Test.YtcabpncdgagihaaHb
import Derived.Test.YtcabpncdgagihaaPmF
import Derived.Test.YtcabpncdgagihaaRf
import Derived.Test.YtcabpncdgagihaaBr
import Derived.Test.YtcabpncdgagihaaRb
namespace Go.Proofs.Ytcabpncdgagihaa.Sc
set_option linter.all false
set_option linter.unusedVariables false
set_option linter.unusedSimpArgs false
open Pm Ty Go.RowKit

/-- A state: the quantiser, three DC values, two vectors. -/
structure St where
  q : Int
  da : Int
  db : Int
  dc : Int
  va : Int
  vb : Int
  vc : Int
  vd : Int
def stc (s : St) : List PV := [.int .i64 s.q, .int .i64 s.da, .int .i64 s.db, .int .i64 s.dc, .int .i64 s.va, .int .i64 s.vb, .int .i64 s.vc, .int .i64 s.vd]
def st0 (q : Int) : St := ⟨q, 0, 0, 0, 0, 0, 0, 0⟩
theorem stc_scoped (s : St) (n : Nat) : Scoped n (.agg (stc s)) := ag_scoped fun x hx => by
  simp only [stc, List.mem_cons, List.not_mem_nil, or_false] at hx
  rcases hx with rfl | rfl | rfl | rfl | rfl | rfl | rfl | rfl <;> exact .int _ _
theorem start_ok (q : Int) (H : Heap) : CallOk Try.prog 20 [.int .i64 q] H (.agg (stc (st0 q))) H := by
  refine CallOk.body (F0 := [(0, .int .i64 q)]) Try.func20 rfl Try.ntmps20 Try.results20 rfl (by kernel_rfl) rfl ?_
  (repeat refine PW.seq ?_); refine PW.rg rfl fun K hK => ?_; simp (maxSteps := 3000000) (disch := omega) only [go_sem, ↓reduceIte, reduceCtorEq, pappend, plen]; refine hK _ _ ?_; clear hK K
  (repeat refine PW.seq ?_); refine PW.rg rfl fun K hK => ?_; simp (maxSteps := 3000000) (disch := omega) only [go_sem, ↓reduceIte, reduceCtorEq, pappend, plen]; refine hK _ _ ?_; clear hK K
  refine PW.ret ⟨.agg [.int .i64 q, .int .i64 0, .int .i64 0, .int .i64 0, .int .i64 0, .int .i64 0, .int .i64 0, .int .i64 0], by simp (maxSteps := 3000000) (disch := omega) only [go_sem, ↓reduceIte, reduceCtorEq, pappend, plen, presults, presult, List.mapM_cons, List.mapM_nil, Option.pure_def, Option.bind_eq_bind, Option.bind_some, Array.toList], ?_⟩
  exact Fin.base (.id (stc_scoped (st0 q) _))
end Go.Proofs.Ytcabpncdgagihaa.Sc

namespace Go.Proofs.Ytcabpncdgagihaa.Sc
set_option linter.all false
set_option linter.unusedVariables false
set_option linter.unusedSimpArgs false
open Pm Ty Go.RowKit

def vqB (q : Int) : Bool := decide (1 ≤ q) && decide (q ≤ 31)
def vstB (s : St) : Bool := (win s.da 4095 && (win s.db 4095 && win s.dc 4095)) && (vqB s.q && (vrg s.va s.vb && vrg s.vc s.vd))
theorem vq_ok (q : Int) (H : Heap) : CallOk Try.prog 26 [.int .i64 q] H (.bool (vqB q)) H := by
  refine CallOk.body (F0 := [(0, .int .i64 q)]) Try.func26 rfl Try.ntmps26 Try.results26 rfl (by kernel_rfl) rfl ?_
  (repeat' (first | refine PW.seq ?_ | refine PW.skip ?_ | refine PW.block ?_ | (refine PW.rg rfl fun K hK => ?_; simp (maxSteps := 3000000) (disch := omega) only [go_sem, ↓reduceIte, reduceCtorEq, pappend, plen]) | (refine PW.draw mix (by kernel_rfl) fun K hK => ?_; simp (maxSteps := 3000000) (disch := omega) only [go_sem, ↓reduceIte, reduceCtorEq, pappend, plen]) | (refine PW.drawg mix (by kernel_rfl) fun K hK => ?_; simp (maxSteps := 3000000) (disch := omega) only [go_sem, ↓reduceIte, reduceCtorEq, pappend, plen]) | (refine PW.drawt [] [] mix (by kernel_rfl) fun K hK => ?_; simp (maxSteps := 3000000) (disch := omega) only [go_sem, ↓reduceIte, reduceCtorEq, pappend, plen]) | ((first | refine VO_cond (fun h => ?_) (fun h => ?_) | refine VOd_cond (fun h => ?_) (fun h => ?_) | refine VOg_cond (fun h => ?_) (fun h => ?_) | refine VOh_cond (fun h => ?_) (fun h => ?_) | refine VOi_cond (fun h => ?_) (fun h => ?_) | refine And.intro (fun h => ?_) (fun h => ?_)) <;> (try simp only [Bool.not_eq_true', Bool.not_eq_false', decide_eq_true_eq, decide_eq_false_iff_not] at h) <;> simp (maxSteps := 3000000) (disch := omega) only [go_sem, ↓reduceIte, reduceCtorEq, pappend, plen, h]) | (refine hK _ _ ?_; clear hK K) | (refine PW.cond (t := _) rfl (fun h => ?_) (fun h => ?_) <;> (try (cases h; done)) <;> (try simp only [Bool.not_eq_true', Bool.not_eq_false', decide_eq_true_eq, decide_eq_false_iff_not] at h))))
  all_goals ((refine PW.ret ⟨_, rfl, ?_⟩; first | refine .inl ⟨?_, rfl⟩ | refine Fin.base (.id' ?_ (.bool _)) | refine Fin.base (.id' ?_ (.int _ _))); (simp_all [vqB, slot, Nat.beq] <;> first | rfl | omega | (rw [Bool.eq_iff_iff]; simp; done) | (rw [Bool.eq_iff_iff]; simp; omega)))
theorem vst_ok' (s : St) (H : Heap) : CallOk Try.prog 25 [.agg (stc s)] H (.bool (vstB s)) H := by
  generalize hr : vstB s = r
  obtain ⟨q, da, db, dc, va, vb, vc, vd⟩ := s
  have w1 := fun x K => win_ok x 4095 K (by omega)
  have v1 := fun x y K => vrg_ok x y K
  have q1 := fun K => vq_ok q K
  refine CallOk.body (F0 := [(0, .agg [.int .i64 q, .int .i64 da, .int .i64 db, .int .i64 dc, .int .i64 va, .int .i64 vb, .int .i64 vc, .int .i64 vd])]) Try.func25 rfl Try.ntmps25 Try.results25 rfl (by kernel_rfl) rfl ?_
  (repeat' (first | refine PW.seq ?_ | refine PW.skip ?_ | refine PW.block ?_ | refine PW.loop ?_ | refine PL.round ?_ | refine PW.exit ?_ | (refine PW.rg rfl fun K hK => ?_; simp (maxSteps := 3000000) (disch := omega) only [go_sem, ↓reduceIte, reduceCtorEq, pappend, plen]) | (refine PW.draw mix (by kernel_rfl) fun K hK => ?_; simp (maxSteps := 3000000) (disch := omega) only [go_sem, ↓reduceIte, reduceCtorEq, pappend, plen]) | (refine PW.drawg mix (by kernel_rfl) fun K hK => ?_; simp (maxSteps := 3000000) (disch := omega) only [go_sem, ↓reduceIte, reduceCtorEq, pappend, plen]) | (refine PW.drawt [] [] mix (by kernel_rfl) fun K hK => ?_; simp (maxSteps := 3000000) (disch := omega) only [go_sem, ↓reduceIte, reduceCtorEq, pappend, plen]) | ((first | refine VO_cond (fun h => ?_) (fun h => ?_) | refine VOd_cond (fun h => ?_) (fun h => ?_) | refine VOg_cond (fun h => ?_) (fun h => ?_) | refine VOh_cond (fun h => ?_) (fun h => ?_) | refine VOi_cond (fun h => ?_) (fun h => ?_) | refine And.intro (fun h => ?_) (fun h => ?_)) <;> (try simp only [Bool.not_eq_true', Bool.not_eq_false', decide_eq_true_eq, decide_eq_false_iff_not] at h) <;> simp (maxSteps := 3000000) (disch := omega) only [go_sem, ↓reduceIte, reduceCtorEq, pappend, plen, h]) | (refine VCx.call (w1 _ _) rfl ?_; simp (maxSteps := 3000000) (disch := omega) only [go_sem, ↓reduceIte, reduceCtorEq, pappend, plen]) | (refine VCx.call (v1 _ _ _) rfl ?_; simp (maxSteps := 3000000) (disch := omega) only [go_sem, ↓reduceIte, reduceCtorEq, pappend, plen]) | (refine VCx.call (q1 _) rfl ?_; simp (maxSteps := 3000000) (disch := omega) only [go_sem, ↓reduceIte, reduceCtorEq, pappend, plen]) | (refine VCy.call (w1 _ _) rfl ?_; simp (maxSteps := 3000000) (disch := omega) only [go_sem, ↓reduceIte, reduceCtorEq, pappend, plen]) | (refine VCy.call (v1 _ _ _) rfl ?_; simp (maxSteps := 3000000) (disch := omega) only [go_sem, ↓reduceIte, reduceCtorEq, pappend, plen]) | (refine VCy.call (q1 _) rfl ?_; simp (maxSteps := 3000000) (disch := omega) only [go_sem, ↓reduceIte, reduceCtorEq, pappend, plen]) | (refine VCz.call (fun _ => w1 _ _) rfl ?_; simp (maxSteps := 3000000) (disch := omega) only [go_sem, ↓reduceIte, reduceCtorEq, pappend, plen]) | (refine VCz.call (fun _ => v1 _ _ _) rfl ?_; simp (maxSteps := 3000000) (disch := omega) only [go_sem, ↓reduceIte, reduceCtorEq, pappend, plen]) | (refine VCz.call (fun _ => q1 _) rfl ?_; simp (maxSteps := 3000000) (disch := omega) only [go_sem, ↓reduceIte, reduceCtorEq, pappend, plen]) | (refine VCk.call (fun _ _ => w1 _ _) rfl ?_; simp (maxSteps := 3000000) (disch := omega) only [go_sem, ↓reduceIte, reduceCtorEq, pappend, plen]) | (refine VCk.call (fun _ _ => v1 _ _ _) rfl ?_; simp (maxSteps := 3000000) (disch := omega) only [go_sem, ↓reduceIte, reduceCtorEq, pappend, plen]) | (refine VCk.call (fun _ _ => q1 _) rfl ?_; simp (maxSteps := 3000000) (disch := omega) only [go_sem, ↓reduceIte, reduceCtorEq, pappend, plen]) | (refine VCj.now (w1 _ _) rfl ?_; simp (maxSteps := 3000000) (disch := omega) only [go_sem, ↓reduceIte, reduceCtorEq, pappend, plen]) | (refine VCj.now (v1 _ _ _) rfl ?_; simp (maxSteps := 3000000) (disch := omega) only [go_sem, ↓reduceIte, reduceCtorEq, pappend, plen]) | (refine VCj.now (q1 _) rfl ?_; simp (maxSteps := 3000000) (disch := omega) only [go_sem, ↓reduceIte, reduceCtorEq, pappend, plen]) | (refine hK _ _ ?_; clear hK K) | (refine PW.cond (t := _) rfl (fun h => ?_) (fun h => ?_) <;> (try (cases h; done)) <;> (try simp only [Bool.not_eq_true', Bool.not_eq_false', decide_eq_true_eq, decide_eq_false_iff_not] at h))))
  all_goals ((refine PW.ret ⟨_, rfl, ?_⟩; first | refine .inl ⟨?_, rfl⟩ | refine Fin.base (.id' ?_ (.bool _)) | refine Fin.base (.id' ?_ (.int _ _))); subst hr; clear w1 v1 q1; (simp_all [vstB, slot, Nat.beq] <;> first | rfl | omega | (rw [Bool.eq_iff_iff]; simp; done) | (rw [Bool.eq_iff_iff]; simp; omega)))
theorem vst_ref (s : St) (H : Heap) : CallOk Try.prog 34 [.agg (stc s)] H (.bool (vstB s)) H := by
  generalize hr : vstB s = r
  obtain ⟨q, da, db, dc, va, vb, vc, vd⟩ := s
  have w1 := fun x K => win_ref x K
  have v1 := fun x y K => vrg_ref x y K
  refine CallOk.body (F0 := [(0, .agg [.int .i64 q, .int .i64 da, .int .i64 db, .int .i64 dc, .int .i64 va, .int .i64 vb, .int .i64 vc, .int .i64 vd])]) Try.func34 rfl Try.ntmps34 Try.results34 rfl (by kernel_rfl) rfl ?_
  (repeat' (first | refine PW.seq ?_ | refine PW.skip ?_ | refine PW.block ?_ | refine PW.loop ?_ | refine PL.round ?_ | refine PW.exit ?_ | (refine PW.rg rfl fun K hK => ?_; simp (maxSteps := 3000000) (disch := omega) only [go_sem, ↓reduceIte, reduceCtorEq, pappend, plen]) | (refine PW.draw mix (by kernel_rfl) fun K hK => ?_; simp (maxSteps := 3000000) (disch := omega) only [go_sem, ↓reduceIte, reduceCtorEq, pappend, plen]) | (refine PW.drawg mix (by kernel_rfl) fun K hK => ?_; simp (maxSteps := 3000000) (disch := omega) only [go_sem, ↓reduceIte, reduceCtorEq, pappend, plen]) | (refine PW.drawt [] [] mix (by kernel_rfl) fun K hK => ?_; simp (maxSteps := 3000000) (disch := omega) only [go_sem, ↓reduceIte, reduceCtorEq, pappend, plen]) | ((first | refine VO_cond (fun h => ?_) (fun h => ?_) | refine VOd_cond (fun h => ?_) (fun h => ?_) | refine VOg_cond (fun h => ?_) (fun h => ?_) | refine VOh_cond (fun h => ?_) (fun h => ?_) | refine VOi_cond (fun h => ?_) (fun h => ?_) | refine And.intro (fun h => ?_) (fun h => ?_)) <;> (try simp only [Bool.not_eq_true', Bool.not_eq_false', decide_eq_true_eq, decide_eq_false_iff_not] at h) <;> simp (maxSteps := 3000000) (disch := omega) only [go_sem, ↓reduceIte, reduceCtorEq, pappend, plen, h]) | (refine VCx.call (w1 _ _) rfl ?_; simp (maxSteps := 3000000) (disch := omega) only [go_sem, ↓reduceIte, reduceCtorEq, pappend, plen]) | (refine VCx.call (v1 _ _ _) rfl ?_; simp (maxSteps := 3000000) (disch := omega) only [go_sem, ↓reduceIte, reduceCtorEq, pappend, plen]) | (refine VCy.call (w1 _ _) rfl ?_; simp (maxSteps := 3000000) (disch := omega) only [go_sem, ↓reduceIte, reduceCtorEq, pappend, plen]) | (refine VCy.call (v1 _ _ _) rfl ?_; simp (maxSteps := 3000000) (disch := omega) only [go_sem, ↓reduceIte, reduceCtorEq, pappend, plen]) | (refine VCz.call (fun _ => w1 _ _) rfl ?_; simp (maxSteps := 3000000) (disch := omega) only [go_sem, ↓reduceIte, reduceCtorEq, pappend, plen]) | (refine VCz.call (fun _ => v1 _ _ _) rfl ?_; simp (maxSteps := 3000000) (disch := omega) only [go_sem, ↓reduceIte, reduceCtorEq, pappend, plen]) | (refine VCk.call (fun _ _ => w1 _ _) rfl ?_; simp (maxSteps := 3000000) (disch := omega) only [go_sem, ↓reduceIte, reduceCtorEq, pappend, plen]) | (refine VCk.call (fun _ _ => v1 _ _ _) rfl ?_; simp (maxSteps := 3000000) (disch := omega) only [go_sem, ↓reduceIte, reduceCtorEq, pappend, plen]) | (refine VCj.now (w1 _ _) rfl ?_; simp (maxSteps := 3000000) (disch := omega) only [go_sem, ↓reduceIte, reduceCtorEq, pappend, plen]) | (refine VCj.now (v1 _ _ _) rfl ?_; simp (maxSteps := 3000000) (disch := omega) only [go_sem, ↓reduceIte, reduceCtorEq, pappend, plen]) | (refine hK _ _ ?_; clear hK K) | (refine PW.cond (t := _) rfl (fun h => ?_) (fun h => ?_) <;> (try (cases h; done)) <;> (try simp only [Bool.not_eq_true', Bool.not_eq_false', decide_eq_true_eq, decide_eq_false_iff_not] at h))))
  all_goals ((refine PW.ret ⟨_, rfl, ?_⟩; first | refine .inl ⟨?_, rfl⟩ | refine Fin.base (.id' ?_ (.bool _)) | refine Fin.base (.id' ?_ (.int _ _))); subst hr; clear w1 v1; (simp_all [vstB, vqB, slot, Nat.beq] <;> first | rfl | omega | (rw [Bool.eq_iff_iff]; simp; done) | (rw [Bool.eq_iff_iff]; simp; omega)))
def aft (s : St) (k : Int) : St := ⟨s.q, if k = 1 then s.da else 0, if k = 1 then s.db else 0, if k = 1 then s.dc else 0, if k = 2 then s.va else 0, if k = 2 then s.vb else 0, if k = 2 then s.vc else 0, if k = 2 then s.vd else 0⟩
theorem aft_ok (s : St) (k : Int) (H : Heap) : CallOk Try.prog 32 [.agg (stc s), .int .i64 k] H (.agg (stc (aft s k))) H := by
  have hsc := stc_scoped (aft s k)
  obtain ⟨q, da, db, dc, va, vb, vc, vd⟩ := s
  have e0 : stc (aft ⟨q, da, db, dc, va, vb, vc, vd⟩ k) = [.int .i64 q, .int .i64 (if k = 1 then da else 0), .int .i64 (if k = 1 then db else 0), .int .i64 (if k = 1 then dc else 0), .int .i64 (if k = 2 then va else 0), .int .i64 (if k = 2 then vb else 0), .int .i64 (if k = 2 then vc else 0), .int .i64 (if k = 2 then vd else 0)] := rfl
  rw [e0] at hsc ⊢
  clear e0
  refine CallOk.body (F0 := [(0, .agg [.int .i64 q, .int .i64 da, .int .i64 db, .int .i64 dc, .int .i64 va, .int .i64 vb, .int .i64 vc, .int .i64 vd]), (1, .int .i64 k)]) Try.func32 rfl Try.ntmps32 Try.results32 rfl (by kernel_rfl) rfl ?_
  by_cases h1 : k = 1 <;> by_cases h2 : k = 2
  · omega
  · have b1 : (k != 1) = false := by simp [h1]
    have b2 : (k != 2) = true := by simp [h2]
    simp only [if_pos h1, if_neg h2] at hsc ⊢
    (repeat' (first | refine PW.seq ?_ | refine PW.skip ?_ | refine PW.block ?_ | (refine PW.rg rfl fun K hK => ?_; simp (maxSteps := 3000000) (disch := omega) only [go_sem, ↓reduceIte, reduceCtorEq, pappend, plen, b1, b2]) | (refine PW.draw mix (by kernel_rfl) fun K hK => ?_; simp (maxSteps := 3000000) (disch := omega) only [go_sem, ↓reduceIte, reduceCtorEq, pappend, plen, b1, b2]) | (refine PW.drawg mix (by kernel_rfl) fun K hK => ?_; simp (maxSteps := 3000000) (disch := omega) only [go_sem, ↓reduceIte, reduceCtorEq, pappend, plen, b1, b2]) | (refine PW.drawt [] [] mix (by kernel_rfl) fun K hK => ?_; simp (maxSteps := 3000000) (disch := omega) only [go_sem, ↓reduceIte, reduceCtorEq, pappend, plen, b1, b2]) | ((first | refine VO_cond (fun h => ?_) (fun h => ?_) | refine VOd_cond (fun h => ?_) (fun h => ?_) | refine VOg_cond (fun h => ?_) (fun h => ?_) | refine VOh_cond (fun h => ?_) (fun h => ?_) | refine VOi_cond (fun h => ?_) (fun h => ?_) | refine And.intro (fun h => ?_) (fun h => ?_)) <;> (try simp only [Bool.not_eq_true', Bool.not_eq_false', decide_eq_true_eq, decide_eq_false_iff_not] at h) <;> simp (maxSteps := 3000000) (disch := omega) only [go_sem, ↓reduceIte, reduceCtorEq, pappend, plen, b1, b2, h]) | (refine hK _ _ ?_; clear hK K) | (refine PW.cond (t := _) rfl (fun h => ?_) (fun h => ?_) <;> (try (cases h; done)) <;> (try simp only [Bool.not_eq_true', Bool.not_eq_false', decide_eq_true_eq, decide_eq_false_iff_not] at h))))
    refine PW.ret ⟨.agg [.int .i64 q, .int .i64 da, .int .i64 db, .int .i64 dc, .int .i64 0, .int .i64 0, .int .i64 0, .int .i64 0], by simp (maxSteps := 3000000) (disch := omega) only [go_sem, ↓reduceIte, reduceCtorEq, pappend, plen, presults, presult, List.mapM_cons, List.mapM_nil, Option.pure_def, Option.bind_eq_bind, Option.bind_some, Array.toList], ?_⟩
    exact Fin.base (.id (hsc _))
  · have b1 : (k != 1) = true := by simp [h1]
    have b2 : (k != 2) = false := by simp [h2]
    simp only [if_neg h1, if_pos h2] at hsc ⊢
    (repeat' (first | refine PW.seq ?_ | refine PW.skip ?_ | refine PW.block ?_ | (refine PW.rg rfl fun K hK => ?_; simp (maxSteps := 3000000) (disch := omega) only [go_sem, ↓reduceIte, reduceCtorEq, pappend, plen, b1, b2]) | (refine PW.draw mix (by kernel_rfl) fun K hK => ?_; simp (maxSteps := 3000000) (disch := omega) only [go_sem, ↓reduceIte, reduceCtorEq, pappend, plen, b1, b2]) | (refine PW.drawg mix (by kernel_rfl) fun K hK => ?_; simp (maxSteps := 3000000) (disch := omega) only [go_sem, ↓reduceIte, reduceCtorEq, pappend, plen, b1, b2]) | (refine PW.drawt [] [] mix (by kernel_rfl) fun K hK => ?_; simp (maxSteps := 3000000) (disch := omega) only [go_sem, ↓reduceIte, reduceCtorEq, pappend, plen, b1, b2]) | ((first | refine VO_cond (fun h => ?_) (fun h => ?_) | refine VOd_cond (fun h => ?_) (fun h => ?_) | refine VOg_cond (fun h => ?_) (fun h => ?_) | refine VOh_cond (fun h => ?_) (fun h => ?_) | refine VOi_cond (fun h => ?_) (fun h => ?_) | refine And.intro (fun h => ?_) (fun h => ?_)) <;> (try simp only [Bool.not_eq_true', Bool.not_eq_false', decide_eq_true_eq, decide_eq_false_iff_not] at h) <;> simp (maxSteps := 3000000) (disch := omega) only [go_sem, ↓reduceIte, reduceCtorEq, pappend, plen, b1, b2, h]) | (refine hK _ _ ?_; clear hK K) | (refine PW.cond (t := _) rfl (fun h => ?_) (fun h => ?_) <;> (try (cases h; done)) <;> (try simp only [Bool.not_eq_true', Bool.not_eq_false', decide_eq_true_eq, decide_eq_false_iff_not] at h))))
    refine PW.ret ⟨.agg [.int .i64 q, .int .i64 0, .int .i64 0, .int .i64 0, .int .i64 va, .int .i64 vb, .int .i64 vc, .int .i64 vd], by simp (maxSteps := 3000000) (disch := omega) only [go_sem, ↓reduceIte, reduceCtorEq, pappend, plen, presults, presult, List.mapM_cons, List.mapM_nil, Option.pure_def, Option.bind_eq_bind, Option.bind_some, Array.toList], ?_⟩
    exact Fin.base (.id (hsc _))
  · have b1 : (k != 1) = true := by simp [h1]
    have b2 : (k != 2) = true := by simp [h2]
    simp only [if_neg h1, if_neg h2] at hsc ⊢
    (repeat' (first | refine PW.seq ?_ | refine PW.skip ?_ | refine PW.block ?_ | (refine PW.rg rfl fun K hK => ?_; simp (maxSteps := 3000000) (disch := omega) only [go_sem, ↓reduceIte, reduceCtorEq, pappend, plen, b1, b2]) | (refine PW.draw mix (by kernel_rfl) fun K hK => ?_; simp (maxSteps := 3000000) (disch := omega) only [go_sem, ↓reduceIte, reduceCtorEq, pappend, plen, b1, b2]) | (refine PW.drawg mix (by kernel_rfl) fun K hK => ?_; simp (maxSteps := 3000000) (disch := omega) only [go_sem, ↓reduceIte, reduceCtorEq, pappend, plen, b1, b2]) | (refine PW.drawt [] [] mix (by kernel_rfl) fun K hK => ?_; simp (maxSteps := 3000000) (disch := omega) only [go_sem, ↓reduceIte, reduceCtorEq, pappend, plen, b1, b2]) | ((first | refine VO_cond (fun h => ?_) (fun h => ?_) | refine VOd_cond (fun h => ?_) (fun h => ?_) | refine VOg_cond (fun h => ?_) (fun h => ?_) | refine VOh_cond (fun h => ?_) (fun h => ?_) | refine VOi_cond (fun h => ?_) (fun h => ?_) | refine And.intro (fun h => ?_) (fun h => ?_)) <;> (try simp only [Bool.not_eq_true', Bool.not_eq_false', decide_eq_true_eq, decide_eq_false_iff_not] at h) <;> simp (maxSteps := 3000000) (disch := omega) only [go_sem, ↓reduceIte, reduceCtorEq, pappend, plen, b1, b2, h]) | (refine hK _ _ ?_; clear hK K) | (refine PW.cond (t := _) rfl (fun h => ?_) (fun h => ?_) <;> (try (cases h; done)) <;> (try simp only [Bool.not_eq_true', Bool.not_eq_false', decide_eq_true_eq, decide_eq_false_iff_not] at h))))
    refine PW.ret ⟨.agg [.int .i64 q, .int .i64 0, .int .i64 0, .int .i64 0, .int .i64 0, .int .i64 0, .int .i64 0, .int .i64 0], by simp (maxSteps := 3000000) (disch := omega) only [go_sem, ↓reduceIte, reduceCtorEq, pappend, plen, presults, presult, List.mapM_cons, List.mapM_nil, Option.pure_def, Option.bind_eq_bind, Option.bind_some, Array.toList], ?_⟩
    exact Fin.base (.id (hsc _))
def cmp (n : Nat) : Nat := n - 3
theorem cmp_ok (n : Nat) (H : Heap) (h : n < 6) : CallOk Try.prog 75 [.int .i64 (n : Int)] H (.int .i64 ((n - 3 : Nat) : Int)) H := by
  refine CallOk.body (F0 := [(0, .int .i64 (n : Int))]) Try.func75 rfl Try.ntmps75 Try.results75 rfl (by kernel_rfl) rfl ?_
  have h6 : n = 0 ∨ n = 1 ∨ n = 2 ∨ n = 3 ∨ n = 4 ∨ n = 5 := by omega
  rcases h6 with rfl | rfl | rfl | rfl | rfl | rfl <;> (repeat' (first | refine PW.seq ?_ | refine PW.skip ?_ | refine PW.block ?_ | (refine PW.rg rfl fun K hK => ?_; simp (maxSteps := 3000000) (disch := omega) only [go_sem, ↓reduceIte, reduceCtorEq, pappend, plen]) | (refine PW.draw mix (by kernel_rfl) fun K hK => ?_; simp (maxSteps := 3000000) (disch := omega) only [go_sem, ↓reduceIte, reduceCtorEq, pappend, plen]) | (refine PW.drawg mix (by kernel_rfl) fun K hK => ?_; simp (maxSteps := 3000000) (disch := omega) only [go_sem, ↓reduceIte, reduceCtorEq, pappend, plen]) | (refine PW.drawt [] [] mix (by kernel_rfl) fun K hK => ?_; simp (maxSteps := 3000000) (disch := omega) only [go_sem, ↓reduceIte, reduceCtorEq, pappend, plen]) | ((first | refine VO_cond (fun h => ?_) (fun h => ?_) | refine VOd_cond (fun h => ?_) (fun h => ?_) | refine VOg_cond (fun h => ?_) (fun h => ?_) | refine VOh_cond (fun h => ?_) (fun h => ?_) | refine VOi_cond (fun h => ?_) (fun h => ?_) | refine And.intro (fun h => ?_) (fun h => ?_)) <;> (try simp only [Bool.not_eq_true', Bool.not_eq_false', decide_eq_true_eq, decide_eq_false_iff_not] at h) <;> simp (maxSteps := 3000000) (disch := omega) only [go_sem, ↓reduceIte, reduceCtorEq, pappend, plen, h]) | (refine hK _ _ ?_; clear hK K) | (refine PW.cond (t := _) rfl (fun h => ?_) (fun h => ?_) <;> (try (cases h; done)) <;> (try simp only [Bool.not_eq_true', Bool.not_eq_false', decide_eq_true_eq, decide_eq_false_iff_not] at h))))
  all_goals ((refine PW.ret ⟨_, rfl, ?_⟩; first | refine .inl ⟨?_, rfl⟩ | refine Fin.base (.id' ?_ (.bool _)) | refine Fin.base (.id' ?_ (.int _ _))); rfl)
theorem part_ref (n : Nat) (H : Heap) (h : n < 6) : CallOk Try.prog 42 [.int .i64 (n : Int)] H (.int .i64 ((n - 3 : Nat) : Int)) H := by
  refine CallOk.body (F0 := [(0, .int .i64 (n : Int))]) Try.func42 rfl Try.ntmps42 Try.results42 rfl (by kernel_rfl) rfl ?_
  have h6 : n = 0 ∨ n = 1 ∨ n = 2 ∨ n = 3 ∨ n = 4 ∨ n = 5 := by omega
  rcases h6 with rfl | rfl | rfl | rfl | rfl | rfl <;> (repeat' (first | refine PW.seq ?_ | refine PW.skip ?_ | refine PW.block ?_ | (refine PW.rg rfl fun K hK => ?_; simp (maxSteps := 3000000) (disch := omega) only [go_sem, ↓reduceIte, reduceCtorEq, pappend, plen]) | (refine PW.draw mix (by kernel_rfl) fun K hK => ?_; simp (maxSteps := 3000000) (disch := omega) only [go_sem, ↓reduceIte, reduceCtorEq, pappend, plen]) | (refine PW.drawg mix (by kernel_rfl) fun K hK => ?_; simp (maxSteps := 3000000) (disch := omega) only [go_sem, ↓reduceIte, reduceCtorEq, pappend, plen]) | (refine PW.drawt [] [] mix (by kernel_rfl) fun K hK => ?_; simp (maxSteps := 3000000) (disch := omega) only [go_sem, ↓reduceIte, reduceCtorEq, pappend, plen]) | ((first | refine VO_cond (fun h => ?_) (fun h => ?_) | refine VOd_cond (fun h => ?_) (fun h => ?_) | refine VOg_cond (fun h => ?_) (fun h => ?_) | refine VOh_cond (fun h => ?_) (fun h => ?_) | refine VOi_cond (fun h => ?_) (fun h => ?_) | refine And.intro (fun h => ?_) (fun h => ?_)) <;> (try simp only [Bool.not_eq_true', Bool.not_eq_false', decide_eq_true_eq, decide_eq_false_iff_not] at h) <;> simp (maxSteps := 3000000) (disch := omega) only [go_sem, ↓reduceIte, reduceCtorEq, pappend, plen, h]) | (refine hK _ _ ?_; clear hK K) | (refine PW.cond (t := _) rfl (fun h => ?_) (fun h => ?_) <;> (try (cases h; done)) <;> (try simp only [Bool.not_eq_true', Bool.not_eq_false', decide_eq_true_eq, decide_eq_false_iff_not] at h))))
  all_goals ((refine PW.ret ⟨_, rfl, ?_⟩; first | refine .inl ⟨?_, rfl⟩ | refine Fin.base (.id' ?_ (.bool _)) | refine Fin.base (.id' ?_ (.int _ _))); rfl)
theorem vecs_ok (m : Mb) (i : Nat) (H : Heap) (hi : H[i]? = some (mB m)) : CallOk Try.prog 71 [.ptr i 0 0] H (.int .i64 (if m.fp then 2 else 1)) H := by
  refine CallOk.body (F0 := [(0, .ptr i 0 0)]) Try.func71 rfl Try.ntmps71 Try.results71 rfl (by kernel_rfl) rfl ?_
  (repeat' (first | refine PW.seq ?_ | refine PW.skip ?_ | refine PW.block ?_ | (refine PW.rg rfl fun K hK => ?_; simp (maxSteps := 3000000) (disch := omega) only [go_sem, ↓reduceIte, reduceCtorEq, pappend, plen, hi, mB, mbc]) | (refine PW.draw mix (by kernel_rfl) fun K hK => ?_; simp (maxSteps := 3000000) (disch := omega) only [go_sem, ↓reduceIte, reduceCtorEq, pappend, plen, hi, mB, mbc]) | (refine PW.drawg mix (by kernel_rfl) fun K hK => ?_; simp (maxSteps := 3000000) (disch := omega) only [go_sem, ↓reduceIte, reduceCtorEq, pappend, plen, hi, mB, mbc]) | (refine PW.drawt [] [] mix (by kernel_rfl) fun K hK => ?_; simp (maxSteps := 3000000) (disch := omega) only [go_sem, ↓reduceIte, reduceCtorEq, pappend, plen, hi, mB, mbc]) | ((first | refine VO_cond (fun h => ?_) (fun h => ?_) | refine VOd_cond (fun h => ?_) (fun h => ?_) | refine VOg_cond (fun h => ?_) (fun h => ?_) | refine VOh_cond (fun h => ?_) (fun h => ?_) | refine VOi_cond (fun h => ?_) (fun h => ?_) | refine And.intro (fun h => ?_) (fun h => ?_)) <;> (try simp only [Bool.not_eq_true', Bool.not_eq_false', decide_eq_true_eq, decide_eq_false_iff_not] at h) <;> simp (maxSteps := 3000000) (disch := omega) only [go_sem, ↓reduceIte, reduceCtorEq, pappend, plen, hi, mB, mbc, h]) | (refine hK _ _ ?_; clear hK K) | (refine PW.cond (t := _) rfl (fun h => ?_) (fun h => ?_) <;> (try (cases h; done)) <;> (try simp only [Bool.not_eq_true', Bool.not_eq_false', decide_eq_true_eq, decide_eq_false_iff_not] at h))))
  all_goals ((refine PW.ret ⟨_, rfl, ?_⟩; first | refine .inl ⟨?_, rfl⟩ | refine Fin.base (.id' ?_ (.bool _)) | refine Fin.base (.id' ?_ (.int _ _))); simp_all [slot, Nat.beq])
end Go.Proofs.Ytcabpncdgagihaa.Sc

namespace Go.Proofs.Ytcabpncdgagihaa.Sc
set_option linter.all false
set_option linter.unusedVariables false
set_option linter.unusedSimpArgs false
open Pm Ty Go.RowKit

section
variable (H : Heap) (i j : Nat) (M : List Bool) (x0 x1 x3 : Blk) (c : Cx) (m : Mb) (s : St)
end

end Go.Proofs.Ytcabpncdgagihaa.Sc

namespace Go.Proofs.Ytcabpncdgagihaa.Sc
set_option linter.all false
set_option linter.unusedVariables false
set_option linter.unusedSimpArgs false
open Pm Ty Go.RowKit

end Go.Proofs.Ytcabpncdgagihaa.Sc

namespace Go.Proofs.Ytcabpncdgagihaa.Sc
set_option linter.all false
set_option linter.unusedVariables false
set_option linter.unusedSimpArgs false
open Pm Ty Go.RowKit

def vXm (m : Mb) (d k : Nat) : Int := if d = 0 then (if k = 0 then m.va else m.vc) else (if k = 0 then m.ve else m.vg)
def vYm (m : Mb) (d k : Nat) : Int := if d = 0 then (if k = 0 then m.vb else m.vd) else (if k = 0 then m.vf else m.vh)
def usd (m : Mb) (d : Nat) : Bool := if d = 0 then m.ua else m.ub
def sXs (s : St) (d : Nat) : Int := if d = 0 then s.va else s.vc
def sYs (s : St) (d : Nat) : Int := if d = 0 then s.vb else s.vd
def setV (s : St) (d : Nat) (x y : Int) : St := if d = 0 then ⟨s.q, s.da, s.db, s.dc, x, y, s.vc, s.vd⟩ else ⟨s.q, s.da, s.db, s.dc, s.va, s.vb, x, y⟩
def nvM (m : Mb) : Nat := if m.fp then 2 else 1
/-- Vectors in range. -/
def vrM (m : Mb) : Prop := ∀ d k, (-63 ≤ vXm m d k ∧ vXm m d k ≤ 63) ∧ (-63 ≤ vYm m d k ∧ vYm m d k ≤ 63)
def vrS (s : St) : Prop := ∀ d, (-63 ≤ sXs s d ∧ sXs s d ≤ 63) ∧ (-63 ≤ sYs s d ∧ sYs s d ≤ 63)
theorem nvM_b (m : Mb) : nvM m ≤ 2 ∧ 1 ≤ nvM m := by unfold nvM; split <;> omega
section
variable (H : Heap) (i j : Nat) (M : List Bool) (x0 x1 x3 : Blk) (c : Cx) (m : Mb) (s : St) (K : Heap)
end

end Go.Proofs.Ytcabpncdgagihaa.Sc

namespace Go.Proofs.Ytcabpncdgagihaa.Sc
set_option linter.all false
set_option linter.unusedVariables false
set_option linter.unusedSimpArgs false
open Pm Ty Go.RowKit

def dcS (s : St) (k : Nat) : Int := if k = 0 then s.da else if k = 1 then s.db else s.dc
def setD (s : St) (k : Nat) (x : Int) : St := if k = 0 then ⟨s.q, x, s.db, s.dc, s.va, s.vb, s.vc, s.vd⟩ else if k = 1 then ⟨s.q, s.da, x, s.dc, s.va, s.vb, s.vc, s.vd⟩ else ⟨s.q, s.da, s.db, x, s.va, s.vb, s.vc, s.vd⟩
/-- Levels in range. -/
def lrM (m : Mb) : Prop := ∀ q, q < 384 → win (intAt m.lv q) 4095 = true
def dcR (s : St) : Prop := ∀ k, -4095 ≤ dcS s k ∧ dcS s k ≤ 4095
theorem dcR_set {s : St} (h : dcR s) (k : Nat) {x : Int} (hx : -4095 ≤ x ∧ x ≤ 4095) : dcR (setD s k x) := fun e => by
  have h0 : -4095 ≤ s.da ∧ s.da ≤ 4095 := h 0
  have h1 : -4095 ≤ s.db ∧ s.db ≤ 4095 := h 1
  have h2 : -4095 ≤ s.dc ∧ s.dc ≤ 4095 := h 2
  unfold setD
  split
  · unfold dcS; dsimp only; split; exact hx; split; exact h1; exact h2
  · split
    · unfold dcS; dsimp only; split; exact h0; split; exact hx; exact h2
    · unfold dcS; dsimp only; split; exact h0; split; exact h1; exact hx
end Go.Proofs.Ytcabpncdgagihaa.Sc

namespace Go.Proofs.Ytcabpncdgagihaa.Sc
set_option linter.all false
set_option linter.unusedVariables false
set_option linter.unusedSimpArgs false
open Pm Ty Go.RowKit

def zSt : St := ⟨0, 0, 0, 0, 0, 0, 0, 0⟩
/-! ### what 'formed' gives -/
structure Fmd (c : Cx) (m : Mb) : Prop where
  k : m.k = 0 ∨ m.k = 1 ∨ m.k = 2
  v : vrM m
  l : lrM m
  d : -30 ≤ m.dl ∧ m.dl ≤ 30
  z : m.k = 0 → m.dl = 0 ∧ hlM m = false
  i : m.k = 1 → cdl m = [true, true, true, true, true, true]
  n : hlM m = false → m.dl = 0
theorem vrg_b {x y : Int} (h : vrg x y = true) : (-63 ≤ x ∧ x ≤ 63) ∧ (-63 ≤ y ∧ y ≤ 63) := by
  simp only [vrg, Bool.and_eq_true] at h
  exact ⟨win_b h.1, win_b h.2⟩
theorem vst_b {s : St} (h : vstB s = true) : (1 ≤ s.q ∧ s.q ≤ 31) ∧ vrS s ∧ dcR s := by
  simp only [vstB, Bool.and_eq_true, vqB, decide_eq_true_eq] at h
  obtain ⟨⟨h1, h2, h3⟩, h4, h5, h6⟩ := h
  refine ⟨h4, fun d => ?_, fun k => ?_⟩
  · unfold sXs sYs
    split
    · exact vrg_b h5
    · exact vrg_b h6
  · unfold dcS
    split
    · exact win_b h1
    · split
      · exact win_b h2
      · exact win_b h3

def SameQ (s t : St) : Prop := t.q = s.q ∧ t.da = s.da ∧ t.db = s.db ∧ t.dc = s.dc
theorem SameQ.trans {a b c : St} (h : SameQ a b) (k : SameQ b c) : SameQ a c := ⟨k.1.trans h.1, k.2.1.trans h.2.1, k.2.2.1.trans h.2.2.1, k.2.2.2.trans h.2.2.2⟩
theorem dcR_same {s t : St} (h : SameQ s t) (k : dcR s) : dcR t := fun e => by
  have := k e
  unfold dcS at this ⊢
  rw [h.2.1, h.2.2.1, h.2.2.2]; exact this
end Go.Proofs.Ytcabpncdgagihaa.Sc

namespace Go.Proofs.Ytcabpncdgagihaa.Sc
set_option linter.all false
set_option linter.unusedVariables false
set_option linter.unusedSimpArgs false
open Pm Ty Go.RowKit

section
variable (H : Heap) (i j : Nat) (A B : Blk) (K : Heap)
end
theorem all_scoped' {n : Nat} {xs : List PV} (h : ∀ x ∈ xs, Scoped n x) : ∀ (j : Nat) (x : PV), xs[j]? = some x → Scoped n x := fun j x hx => h x (List.mem_of_getElem? hx)
theorem cxc_cell (c : Cx) : (cxc c).all PV.cell = true := rfl
theorem stc_cell (s : St) : (stc s).all PV.cell = true := rfl
theorem mbc_cell (m : Mb) : (mbc m).all PV.cell = true := by
  have hall := is_cell m.lv
  simp [mbc, PV.cell]
  exact fun x hx => List.all_eq_true.1 hall x hx

end Go.Proofs.Ytcabpncdgagihaa.Sc

namespace Go.Proofs.Ytcabpncdgagihaa.Sc
set_option linter.all false
set_option linter.unusedVariables false
set_option linter.unusedSimpArgs false
open Pm Ty Go.RowKit

def tkF (q : List UInt8) (n a : Nat) : Rr Bool := if a < n then .ok (decide (ubit q a = 1)) (a + 1) else .er 3 a
def tkD (q : List UInt8) (n : Nat) (pr : Int) (most : Nat) (a : Nat) : Rr Int := (tkS q n a).bind fun d a1 => if win (pr + d) most then .ok (pr + d) a1 else .er 2 a1
def setSl (m : Mb) (d k : Nat) (x : Int) : Mb := if d = 0 then (if k = 0 then { m with sa := x } else { m with sb := x }) else (if k = 0 then { m with sc := x } else { m with sd := x })
def setVm (m : Mb) (d k : Nat) (x y : Int) : Mb := if d = 0 then (if k = 0 then { m with va := x, vb := y } else { m with vc := x, vd := y }) else (if k = 0 then { m with ve := x, vf := y } else { m with vg := x, vh := y })
def setCd (m : Mb) (n : Nat) (b : Bool) : Mb := if n = 0 then { m with ca := b } else if n = 1 then { m with cb := b } else if n = 2 then { m with cc := b } else if n = 3 then { m with cd := b } else if n = 4 then { m with ce := b } else { m with cf := b }
def setLv (m : Mb) (n : Nat) (l : List Int) : Mb := { m with lv := m.lv.take (n * 64) ++ l ++ m.lv.drop (n * 64 + 64) }
/-- An Intra macroblock; an Inter macroblock; before the rest of it is read. -/
def inMb : Mb := ⟨1, false, false, false, false, 0, 0, 0, 0, 0, 0, 0, 0, 0, 0, 0, 0, 0, true, true, true, true, true, true, zl384⟩
def peMb (v : Nat) : Mb := ⟨2, decide (v ≤ 2) || decide (5 ≤ v), decide (3 ≤ v), false, false, 0, 0, 0, 0, 0, 0, 0, 0, 0, 0, 0, 0, 0, false, false, false, false, false, false, zl384⟩
def tkKd (c : Cx) (q : List UInt8) (n a : Nat) : Rr (Mb × Bool) :=
  if c.t = 1 then .ok (inMb, true) a else (tkU q n a).bind fun v a1 => if (if c.t = 2 then 3 else 7) < v then .er 2 a1 else if v = (if c.t = 2 then 3 else 7) then .ok (inMb, true) a1 else if v = 0 then .ok (zMb, false) a1 else .ok (peMb v, decide (v % 2 = 0)) a1
def tkVc (c : Cx) (q : List UInt8) (n : Nat) (m : Mb) (s : St) (d k a : Nat) : Rr (Mb × St) :=
  (if m.fp || fcx c then (tkF q n a).bind fun b a1 => .ok (setSl m d k (b.toNat : Int)) a1 else .ok m a).bind fun m a1 =>
  (tkD q n (sXs s d) 63 a1).bind fun x a2 => (tkD q n (sYs s d) 63 a2).bind fun y a3 => .ok (setVm m d k x y, setV s d x y) a3
def tkVs (c : Cx) (q : List UInt8) (n d : Nat) : Nat → Nat → Mb → St → Nat → Rr (Mb × St)
  | 0, _, m, s, a => .ok (m, s) a
  | r + 1, k, m, s, a => (tkVc c q n m s d k a).bind fun x a1 => tkVs c q n d r (k + 1) x.1 x.2 a1
def tkDr (c : Cx) (q : List UInt8) (n : Nat) (m : Mb) (s : St) (d a : Nat) : Rr (Mb × St) := if usd m d then tkVs c q n d (nvM m) 0 m s a else .ok (m, s) a
def tkDs (c : Cx) (q : List UInt8) (n : Nat) : Nat → Nat → Mb → St → Nat → Rr (Mb × St)
  | 0, _, m, s, a => .ok (m, s) a
  | r + 1, d, m, s, a => (tkDr c q n m s d a).bind fun x a1 => tkDs c q n r (d + 1) x.1 x.2 a1
def tkPr (c : Cx) (q : List UInt8) (n : Nat) (m : Mb) (s : St) (a : Nat) : Rr (Mb × St) :=
  if m.k = 2 then (if bcx c then (tkF q n a).bind fun b a1 => .ok { m with fp := b } a1 else .ok m a).bind fun m a1 => tkDs c q n 2 0 m s a1 else .ok (m, s) a
def tkCh (c : Cx) (q : List UInt8) (n : Nat) (hl : Bool) (m : Mb) (s : St) (a : Nat) : Rr (Mb × St) :=
  if hl then (if bcx c then (tkF q n a).bind fun b a1 => .ok { m with fd := b } a1 else .ok m a).bind fun m a1 =>
    (tkS q n a1).bind fun d a2 => if vqB (s.q + d) then .ok ({ m with dl := d }, { s with q := s.q + d }) a2 else .er 2 a2 else .ok (m, s) a
def tkCf (q : List UInt8) (n : Nat) : Nat → Mb → Nat → Rr Mb
  | 0, m, a => if anyC m then .ok m a else .er 2 a
  | r + 1, m, a => (tkF q n a).bind fun b a1 => tkCf q n r (setCd m (5 - r) b) a1
def tkCo (q : List UInt8) (n : Nat) (hl : Bool) (m : Mb) (a : Nat) : Rr Mb := if decide (m.k = 2) && hl then tkCf q n 6 m a else .ok m a
def tkLv (q : List UInt8) (n : Nat) : Nat → Mb → St → Nat → Rr (Mb × St)
  | 0, m, s, a => .ok (m, s) a
  | r + 1, m, s, a => if flagAt (cdl m) (5 - r) then
      (if m.k = 2 then (tkBl q n 0 a).bind fun l a1 => if l = z64 then .er 2 a1 else tkLv q n r (setLv m (5 - r) l) s a1
       else (tkD q n (dcS s (5 - r - 3)) 4095 a).bind fun d a1 => (tkBl q n 1 a1).bind fun l a2 => tkLv q n r (setLv m (5 - r) (l.set 0 d)) (setD s (5 - r - 3) d) a2) else tkLv q n r m s a
/-- Parts 2 to 5. -/
def tkRs (c : Cx) (q : List UInt8) (n : Nat) (hl : Bool) (m : Mb) (s : St) (a : Nat) : Rr (Mb × St) :=
  (tkPr c q n m s a).bind fun y a2 => (tkCh c q n hl y.1 y.2 a2).bind fun z a3 => (tkCo q n hl z.1 a3).bind fun m a4 => (tkLv q n 6 m z.2 a4).bind fun w a5 => .ok (w.1, aft w.2 w.1.k) a5
def mtk (c : Cx) (s : St) (q : List UInt8) (n a : Nat) : Rr (Mb × St) := (tkKd c q n a).bind fun x a1 => tkRs c q n x.2 x.1 s a1

theorem tkF_b {q : List UInt8} {n a a1 : Nat} {b : Bool} (h : tkF q n a = .ok b a1) : a1 = a + 1 ∧ a < n ∧ b = decide (ubit q a = 1) := by
  unfold tkF at h
  split at h
  · injection h with h1 h2; exact ⟨h2.symm, by assumption, h1.symm⟩
  · cases h
theorem tkF_e {q : List UInt8} {n a e a1 : Nat} (h : tkF q n a = .er e a1) : a1 = a ∧ e = 3 ∧ n ≤ a := by
  unfold tkF at h
  split at h
  · cases h
  · injection h with h1 h2; omega
theorem tkD_b {q : List UInt8} {n a a1 most : Nat} {pr v : Int} (h : tkD q n pr most a = .ok v a1) (ha : a ≤ n) : (-(most : Int) ≤ v ∧ v ≤ most) ∧ a ≤ a1 ∧ a1 ≤ n := by
  unfold tkD at h
  cases hs : tkS q n a with
  | er e a2 => rw [hs] at h; cases h
  | ok d a2 =>
    rw [hs, Rr.bind_ok] at h
    have b := tkS_b hs ha
    split at h
    · rename_i hw
      injection h with h1 h2
      subst h1 h2
      exact ⟨win_b hw, by omega, b.2.2⟩
    · cases h
theorem tkD_e {q : List UInt8} {n a a1 e most : Nat} {pr : Int} (h : tkD q n pr most a = .er e a1) (ha : a ≤ n) : a ≤ a1 ∧ a1 ≤ n ∧ e ≤ 3 := by
  unfold tkD at h
  cases hs : tkS q n a with
  | er e2 a2 =>
    rw [hs] at h
    have := tkS_e hs
    injection h with h1 h2
    omega
  | ok d a2 =>
    rw [hs, Rr.bind_ok] at h
    have b := tkS_b hs ha
    split at h
    · cases h
    · injection h with h1 h2; omega

/-! ### memory -/
def tC (s : St) (w : Nat) (c : Cx) (mi : Nat) (hl : Bool) : List PV := [.int .i64 s.q, .int .i64 s.da, .int .i64 s.db, .int .i64 s.dc, .int .i64 s.va, .int .i64 s.vb, .int .i64 s.vc, .int .i64 s.vd, .ptr w 0 0, .int .i64 c.t, .int .i64 c.s, .bool c.i, .bool c.n, .ptr mi 0 0, .bool hl]
def tB (s : St) (w : Nat) (c : Cx) (mi : Nat) (hl : Bool) : Blk := ⟨126, 0, tC s w c mi hl⟩
theorem tB_v (s : St) (w : Nat) (c : Cx) (mi : Nat) (hl : Bool) : (tB s w c mi hl).ver = 0 := rfl
theorem tB_c (s : St) (w : Nat) (c : Cx) (mi : Nat) (hl : Bool) : (tB s w c mi hl).cells = tC s w c mi hl := rfl
theorem tB_e (s : St) (w : Nat) (c : Cx) (mi : Nat) (hl : Bool) : (tB s w c mi hl).e = 126 := rfl
theorem mB_v (m : Mb) : (mB m).ver = 0 := rfl
theorem mB_c (m : Mb) : (mB m).cells = mbc m := rfl
theorem mB_e (m : Mb) : (mB m).e = 49 := rfl
/-- What Take has in memory: the reader at place a, and its own blocks. -/
def tG (H : Heap) (i : Nat) (p : List UInt8) (n a : Nat) (X : Heap) (B4 B5 : Blk) : Heap := H.set i (rA p n a) ++ (X ++ [B4, B5])
section
variable (H : Heap) (i : Nat) (p : List UInt8) (n a : Nat) (X : Heap) (B4 B5 : Blk)
theorem tG_i (hi : i < H.length) : (tG H i p n a X B4 B5)[i]? = some (rA p n a) := by
  unfold tG; rw [List.getElem?_append_left (by simpa using hi)]; simp [hi]
theorem tG_si (hi : i < H.length) (a' : Nat) : (tG H i p n a X B4 B5).set i (rA p n a') = tG H i p n a' X B4 B5 := by
  unfold tG; rw [List.set_append_left _ _ (by simpa using hi), List.set_set]
theorem tG_4 (hX : X.length = 4) : (tG H i p n a X B4 B5)[H.length + 4]? = some B4 := by
  unfold tG
  rw [List.getElem?_append_right (by simp), List.length_set, show H.length + 4 - H.length = 4 by omega, List.getElem?_append_right (by omega), hX]; rfl
theorem tG_5 (hX : X.length = 4) : (tG H i p n a X B4 B5)[H.length + 5]? = some B5 := by
  unfold tG
  rw [List.getElem?_append_right (by simp), List.length_set, show H.length + 5 - H.length = 5 by omega, List.getElem?_append_right (by omega), hX]; rfl
theorem tG_s4 (hX : X.length = 4) (B : Blk) : (tG H i p n a X B4 B5).set (H.length + 4) B = tG H i p n a X B B5 := by
  unfold tG
  rw [List.set_append_right _ _ (by simp), List.length_set, show H.length + 4 - H.length = 4 by omega, List.set_append_right _ _ (by omega), hX]; rfl
theorem tG_s5 (hX : X.length = 4) (B : Blk) : (tG H i p n a X B4 B5).set (H.length + 5) B = tG H i p n a X B4 B := by
  unfold tG
  rw [List.set_append_right _ _ (by simp), List.length_set, show H.length + 5 - H.length = 5 by omega, List.set_append_right _ _ (by omega), hX]; rfl
end

def rvF : Rr Bool → PV
  | .ok b _ => .tup [.bool b, .int .i64 0]
  | .er e _ => .tup [.bool false, .int .i64 ((e : Int) + 1)]

section
variable (H : Heap) (i : Nat) (p : List UInt8) (n a : Nat) (X : Heap) (B4 : Blk) (c : Cx) (s : St) (hl : Bool) (hi : i < H.length) (hX : X.length = 4) (ha : a ≤ n) (hn : n ≤ 8 * p.length) (hp : p.length ≤ 100000000)
include hi hX ha hn hp
theorem tdist_ok (pr : Int) (most : Nat) (hm : most ≤ 4095) (hpr : -4095 ≤ pr ∧ pr ≤ 4095) : CallOk Try.prog 98 [.ptr (H.length + 5) 0 0, .int .i64 pr, .int .i64 (most : Int)] (tG H i p n a X B4 (tB s i c (H.length + 4) hl)) (rvS (tkD p n pr most a)) (tG H i p n (tkD p n pr most a).at X B4 (tB s i c (H.length + 4) hl)) := by
  have g5 := fun a => tG_5 H i p n a X B4 (tB s i c (H.length + 4) hl) hX
  have gi := tG_i H i p n a X B4 (tB s i c (H.length + 4) hl) hi
  have pc8 : (tC s i c (H.length + 4) hl)[8]? = some (.ptr i 0 0) := rfl
  have t := tks_ok i p n a _ gi ha hn hp
  have wo := fun x K => win_ok x most K (by omega)
  rw [tG_si _ _ _ _ _ _ _ _ hi] at t
  unfold tkD
  cases hs : tkS p n a with
  | er e a1 =>
    rw [hs] at t
    simp only [Rr.bind, rvS, Rr.at] at t ⊢
    have he := (tkS_e hs).2
    have d0 : ((e : Int) + 1 != 0) = true := by simp; omega
    generalize tG H i p n a1 X B4 (tB s i c (H.length + 4) hl) = Hz at *
    refine CallOk.body (F0 := [(0, .ptr (H.length + 5) 0 0), (1, .int .i64 pr), (2, .int .i64 (most : Int))]) Try.func98 rfl Try.ntmps98 Try.results98 rfl (by kernel_rfl) rfl ?_
    (repeat refine PW.seq ?_); refine PW.rg rfl fun K hK => ?_; simp (maxSteps := 3000000) (disch := omega) only [go_sem, ↓reduceIte, reduceCtorEq, pappend, plen]; refine hK _ _ ?_; clear hK K
    (repeat refine PW.seq ?_); refine PW.rg rfl fun K hK => ?_; simp (maxSteps := 3000000) (disch := omega) only [go_sem, ↓reduceIte, reduceCtorEq, pappend, plen, g5, tB_v, tB_c, pc8]; refine VCx.call (t) rfl ?_; simp (maxSteps := 3000000) (disch := omega) only [go_sem, ↓reduceIte, reduceCtorEq, pappend, plen, g5, tB_v, tB_c, pc8]; refine hK _ _ ?_; clear hK K
    (repeat refine PW.seq ?_); refine PW.rg rfl fun K hK => ?_; simp (maxSteps := 3000000) (disch := omega) only [go_sem, ↓reduceIte, reduceCtorEq, pappend, plen, d0]; refine hK _ _ ?_; clear hK K
    (repeat refine PW.seq ?_); refine PW.cond (t := _) rfl (fun h => ?_) (fun h => ?_)
    rotate_left
    · cases h
    (repeat refine PW.seq ?_); refine PW.rg rfl fun K hK => ?_; simp (maxSteps := 3000000) (disch := omega) only [go_sem, ↓reduceIte, reduceCtorEq, pappend, plen]; refine hK _ _ ?_; clear hK K
    exact PW.ret ⟨_, rfl, Fin.now⟩
  | ok d a1 =>
    rw [hs] at t
    have b := (tkS_b hs ha).1
    simp only [Rr.bind, rvS, Rr.at] at t
    have wd := fun K => wo (pr + d) K
    refine CallOk.body (F0 := [(0, .ptr (H.length + 5) 0 0), (1, .int .i64 pr), (2, .int .i64 (most : Int))]) Try.func98 rfl Try.ntmps98 Try.results98 rfl (by kernel_rfl) rfl ?_
    (repeat refine PW.seq ?_); refine PW.rg rfl fun K hK => ?_; simp (maxSteps := 3000000) (disch := omega) only [go_sem, ↓reduceIte, reduceCtorEq, pappend, plen]; refine hK _ _ ?_; clear hK K
    (repeat refine PW.seq ?_); refine PW.rg rfl fun K hK => ?_; simp (maxSteps := 3000000) (disch := omega) only [go_sem, ↓reduceIte, reduceCtorEq, pappend, plen, g5, tB_v, tB_c, pc8]; refine VCx.call (t) rfl ?_; simp (maxSteps := 3000000) (disch := omega) only [go_sem, ↓reduceIte, reduceCtorEq, pappend, plen, g5, tB_v, tB_c, pc8]; refine hK _ _ ?_; clear hK K
    (repeat refine PW.seq ?_); refine PW.rg rfl fun K hK => ?_; simp (maxSteps := 3000000) (disch := omega) only [go_sem, ↓reduceIte, reduceCtorEq, pappend, plen]; refine hK _ _ ?_; clear hK K
    (repeat refine PW.seq ?_); refine PW.cond (t := _) rfl (fun h => ?_) (fun h => ?_)
    · cases h
    refine PW.skip ?_
    simp only [Rr.bind]
    cases hw : win (pr + d) most with
    | true =>
      rw [hw] at wd
      (repeat refine PW.seq ?_); refine PW.rg rfl fun K hK => ?_; simp (maxSteps := 3000000) (disch := omega) only [go_sem, ↓reduceIte, reduceCtorEq, pappend, plen]
      refine VCx.call (wd _) rfl ?_; simp (maxSteps := 3000000) (disch := omega) only [go_sem, ↓reduceIte, reduceCtorEq, pappend, plen]; refine hK _ _ ?_; clear hK K
      (repeat refine PW.seq ?_); refine PW.cond (t := _) rfl (fun h => ?_) (fun h => ?_)
      · cases h
      refine PW.skip ?_
      (repeat refine PW.seq ?_); refine PW.rg rfl fun K hK => ?_; simp (maxSteps := 3000000) (disch := omega) only [go_sem, ↓reduceIte, reduceCtorEq, pappend, plen]; refine hK _ _ ?_; clear hK K
      exact PW.ret ⟨_, rfl, Fin.now⟩
    | false =>
      rw [hw] at wd
      (repeat refine PW.seq ?_); refine PW.rg rfl fun K hK => ?_; simp (maxSteps := 3000000) (disch := omega) only [go_sem, ↓reduceIte, reduceCtorEq, pappend, plen]
      refine VCx.call (wd _) rfl ?_; simp (maxSteps := 3000000) (disch := omega) only [go_sem, ↓reduceIte, reduceCtorEq, pappend, plen]; refine hK _ _ ?_; clear hK K
      (repeat refine PW.seq ?_); refine PW.cond (t := _) rfl (fun h => ?_) (fun h => ?_)
      rotate_left
      · cases h
      (repeat refine PW.seq ?_); refine PW.rg rfl fun K hK => ?_; simp (maxSteps := 3000000) (disch := omega) only [go_sem, ↓reduceIte, reduceCtorEq, pappend, plen]; refine hK _ _ ?_; clear hK K
      exact PW.ret ⟨_, rfl, Fin.now⟩
end

end Go.Proofs.Ytcabpncdgagihaa.Sc

namespace Go.Proofs.Ytcabpncdgagihaa.Sc
set_option linter.all false
set_option linter.unusedVariables false
set_option linter.unusedSimpArgs false
open Pm Ty Go.RowKit

theorem mbc_sk (m : Mb) (x : Int) : (mbc m).set 0 (.int .i64 x) = mbc { m with k := x } := rfl
theorem mbc_su (m : Mb) (x y : Bool) : List.take 1 (mbc m) ++ .bool x :: .bool y :: List.drop 3 (mbc m) = mbc { m with ua := x, ub := y } := rfl
theorem mbc_sc6 (m : Mb) (b0 b1 b2 b3 b4 b5 : Bool) : List.take 18 (mbc m) ++ .bool b0 :: .bool b1 :: .bool b2 :: .bool b3 :: .bool b4 :: .bool b5 :: List.drop 24 (mbc m) = mbc { m with ca := b0, cb := b1, cc := b2, cd := b3, ce := b4, cf := b5 } := rfl
theorem mB_of (m : Mb) : (⟨49, 0, mbc m⟩ : Blk) = mB m := rfl
theorem tB_of (s : St) (w : Nat) (c : Cx) (mi : Nat) (hl : Bool) : (⟨126, 0, tC s w c mi hl⟩ : Blk) = tB s w c mi hl := rfl
theorem tC_sh (s : St) (w : Nat) (c : Cx) (mi : Nat) (hl b : Bool) : (tC s w c mi hl).set 14 (.bool b) = tC s w c mi b := rfl
theorem tC_mi (s : St) (w : Nat) (c : Cx) (mi : Nat) (hl : Bool) : (tC s w c mi hl)[13]? = some (.ptr mi 0 0) := rfl
theorem tC_w (s : St) (w : Nat) (c : Cx) (mi : Nat) (hl : Bool) : (tC s w c mi hl)[8]? = some (.ptr w 0 0) := rfl
theorem tC_t (s : St) (w : Nat) (c : Cx) (mi : Nat) (hl : Bool) : (tC s w c mi hl)[9]? = some (.int .i64 c.t) := rfl
theorem tC_c (s : St) (w : Nat) (c : Cx) (mi : Nat) (hl : Bool) : List.take 4 (List.drop 9 (tC s w c mi hl)) = cxc c := rfl
theorem tC_hl (s : St) (w : Nat) (c : Cx) (mi : Nat) (hl : Bool) : (tC s w c mi hl)[14]? = some (.bool hl) := rfl
theorem tC_len (s : St) (w : Nat) (c : Cx) (mi : Nat) (hl : Bool) : (tC s w c mi hl).length = 15 := rfl

theorem allb_ok (H : Heap) : CallOk Try.prog 60 [] H (.agg [.bool true, .bool true, .bool true, .bool true, .bool true, .bool true]) H := by
  refine CallOk.body (F0 := []) Try.func60 rfl Try.ntmps60 Try.results60 rfl (by kernel_rfl) rfl ?_
  (repeat refine PW.seq ?_); refine PW.rg rfl fun K hK => ?_; simp (maxSteps := 3000000) (disch := omega) only [go_sem, ↓reduceIte, reduceCtorEq, pappend, plen]; refine hK _ _ ?_; clear hK K
  (repeat refine PW.seq ?_); refine PW.rg rfl fun K hK => ?_; simp (maxSteps := 3000000) (disch := omega) only [go_sem, ↓reduceIte, reduceCtorEq, pappend, plen]; refine hK _ _ ?_; clear hK K
  refine PW.ret ⟨.agg [.bool true, .bool true, .bool true, .bool true, .bool true, .bool true], by simp (maxSteps := 3000000) (disch := omega) only [go_sem, ↓reduceIte, reduceCtorEq, pappend, plen, presults, presult, List.mapM_cons, List.mapM_nil, Option.pure_def, Option.bind_eq_bind, Option.bind_some, Array.toList], ?_⟩
  exact Fin.base (.id (ag_scoped (fs_scoped _ [true, true, true, true, true, true])))

section
variable (H : Heap) (i : Nat) (p : List UInt8) (n a : Nat) (X : Heap) (c : Cx) (s : St) (hl : Bool) (hX : X.length = 4)
include hX
theorem tintra_ok (m : Mb) (hml : m.lv.length = 384) : CallOk Try.prog 92 [.ptr (H.length + 5) 0 0] (tG H i p n a X (mB m) (tB s i c (H.length + 4) hl)) (.tup []) (tG H i p n a X (mB { m with k := 1, ca := true, cb := true, cc := true, cd := true, ce := true, cf := true }) (tB s i c (H.length + 4) true)) := by
  have g5 := fun B4 B5 => tG_5 H i p n a X B4 B5 hX
  have g4 := fun B4 B5 => tG_4 H i p n a X B4 B5 hX
  have s5 := fun B4 B5 B => tG_s5 H i p n a X B4 B5 hX B
  have s4 := fun B4 B5 B => tG_s4 H i p n a X B4 B5 hX B
  have hlen := mbc_len m hml
  have al := fun K => allb_ok K
  refine CallOk.body (F0 := [(0, .ptr (H.length + 5) 0 0)]) Try.func92 rfl Try.ntmps92 Try.results92 rfl (by kernel_rfl) rfl ?_
  (repeat refine PW.seq ?_); refine PW.rg rfl fun K hK => ?_; simp (maxSteps := 3000000) (disch := omega) only [go_sem, ↓reduceIte, reduceCtorEq, pappend, plen, g5, g4, s4, s5, tB_v, tB_c, tC_mi, mB_v, mB_c, mB_e, mbc_sk, mB_of, hlen]; refine hK _ _ ?_; clear hK K
  have hlen2 := mbc_len { m with k := 1 } hml
  (repeat refine PW.seq ?_); refine PW.draw mix (by kernel_rfl) fun K hK => ?_; simp (maxSteps := 3000000) (disch := omega) only [go_sem, ↓reduceIte, reduceCtorEq, pappend, plen, g5, g4, s4, s5, tB_v, tB_c, tC_mi, mB_v, mB_c, mB_e, mB_of, hlen2]
  refine VCy.callP al rfl ?_; simp (maxSteps := 3000000) (disch := omega) only [go_sem, ↓reduceIte, reduceCtorEq, pappend, plen, g5, g4, s4, s5, tB_v, tB_c, tC_mi, mB_v, mB_c, mB_e, mB_of, hlen2, mbc_sc6, Nat.reduceAdd]; refine hK _ _ ?_; clear hK K
  (repeat refine PW.seq ?_); refine PW.rg rfl fun K hK => ?_; simp (maxSteps := 3000000) (disch := omega) only [go_sem, ↓reduceIte, reduceCtorEq, pappend, plen, g5, g4, s4, s5, tB_v, tB_c, tB_e, tC_mi, tC_sh, tC_len, tB_of]; refine hK _ _ ?_; clear hK K
  exact Exists.intro _ (And.intro rfl Fin.now)
end
/-- What a part returns. -/
def ecd : Nat → PV := fun e => .int .i64 ((e : Int) + 1)
theorem zl384_len : zl384.length = 384 := by unfold zl384; exact List.length_replicate
section
variable (H : Heap) (i : Nat) (p : List UInt8) (n a : Nat) (X : Heap) (c : Cx) (s : St) (hi : i < H.length) (hX : X.length = 4) (ha : a ≤ n) (hn : n ≤ 8 * p.length) (hp : p.length ≤ 100000000)
include hi hX ha hn hp
theorem tkind_ok : CallOk Try.prog 55 [.ptr (H.length + 5) 0 0] (tG H i p n a X (mB zMb) (tB s i c (H.length + 4) false))
    (match tkKd c p n a with | .ok _ _ => .int .i64 0 | .er e _ => ecd e)
    (match tkKd c p n a with | .ok x a1 => tG H i p n a1 X (mB x.1) (tB s i c (H.length + 4) x.2) | .er _ a1 => tG H i p n a1 X (mB zMb) (tB s i c (H.length + 4) false)) := by
  have g5 := fun a B4 B5 => tG_5 H i p n a X B4 B5 hX
  have g4 := fun a B4 B5 => tG_4 H i p n a X B4 B5 hX
  have s5 := fun a B4 B5 B => tG_s5 H i p n a X B4 B5 hX B
  have s4 := fun a B4 B5 B => tG_s4 H i p n a X B4 B5 hX B
  have ti := fun a => tintra_ok H i p n a X c s false hX zMb zl384_len
  have hzl := mbc_len zMb zl384_len
  refine CallOk.body (F0 := [(0, .ptr (H.length + 5) 0 0)]) Try.func55 rfl Try.ntmps55 Try.results55 rfl (by kernel_rfl) rfl ?_
  (repeat refine PW.seq ?_); refine PW.rg rfl fun K hK => ?_; simp (maxSteps := 3000000) (disch := omega) only [go_sem, ↓reduceIte, reduceCtorEq, pappend, plen]; refine hK _ _ ?_; clear hK K
  by_cases ht1 : c.t = 1
  · have q1 : (c.t == 1) = true := by simp [ht1]
    (repeat refine PW.seq ?_); refine PW.rg rfl fun K hK => ?_; simp (maxSteps := 3000000) (disch := omega) only [go_sem, ↓reduceIte, reduceCtorEq, pappend, plen, g5, tB_v, tB_c, tC_t, q1]; refine hK _ _ ?_; clear hK K
    (repeat refine PW.seq ?_); refine PW.cond (t := _) rfl (fun h => ?_) (fun h => ?_)
    rotate_left
    · cases h
    (repeat refine PW.seq ?_); refine PW.rg rfl fun K hK => ?_; simp (maxSteps := 3000000) (disch := omega) only [go_sem, ↓reduceIte, reduceCtorEq, pappend, plen]; refine VCx.call (ti _) rfl ?_; simp (maxSteps := 3000000) (disch := omega) only [go_sem, ↓reduceIte, reduceCtorEq, pappend, plen]; refine hK _ _ ?_; clear hK K
    (repeat refine PW.seq ?_); refine PW.rg rfl fun K hK => ?_; simp (maxSteps := 3000000) (disch := omega) only [go_sem, ↓reduceIte, reduceCtorEq, pappend, plen]; refine hK _ _ ?_; clear hK K
    refine PW.ret ⟨_, rfl, ?_⟩
    have hk : tkKd c p n a = .ok (inMb, true) a := by unfold tkKd; rw [if_pos ht1]
    rw [hk]
    exact Fin.now
  have q1 : (c.t == 1) = false := by simp [ht1]
  have tu := tku_ok i p n a _ (tG_i H i p n a X (mB zMb) (tB s i c (H.length + 4) false) hi) ha hn hp
  rw [tG_si _ _ _ _ _ _ _ _ hi] at tu
  have hk : tkKd c p n a = (tkU p n a).bind fun v a1 => if (if c.t = 2 then 3 else 7) < v then .er 2 a1 else if v = (if c.t = 2 then 3 else 7) then .ok (inMb, true) a1 else if v = 0 then .ok (zMb, false) a1 else .ok (peMb v, decide (v % 2 = 0)) a1 := by unfold tkKd; rw [if_neg ht1]
  (repeat refine PW.seq ?_); refine PW.rg rfl fun K hK => ?_; simp (maxSteps := 3000000) (disch := omega) only [go_sem, ↓reduceIte, reduceCtorEq, pappend, plen, g5, tB_v, tB_c, tC_t, q1]; refine hK _ _ ?_; clear hK K
  (repeat refine PW.seq ?_); refine PW.cond (t := _) rfl (fun h => ?_) (fun h => ?_)
  · cases h
  refine PW.skip ?_
  cases hu : tkU p n a with
  | er e a1 =>
    rw [hu] at tu hk
    rw [hk]
    simp only [rvU, Rr.at, Rr.bind] at tu ⊢
    have d0 : ((e : Int) + 1 != 0) = true := by simp; omega
    have he := (tkU_e hu).2
    (repeat refine PW.seq ?_); refine PW.rg rfl fun K hK => ?_; simp (maxSteps := 3000000) (disch := omega) only [go_sem, ↓reduceIte, reduceCtorEq, pappend, plen, g5, tB_v, tB_c, tC_w]; refine VCx.call (tu) rfl ?_; simp (maxSteps := 3000000) (disch := omega) only [go_sem, ↓reduceIte, reduceCtorEq, pappend, plen, g5, tB_v, tB_c, tC_w]; refine hK _ _ ?_; clear hK K
    (repeat refine PW.seq ?_); refine PW.rg rfl fun K hK => ?_; simp (maxSteps := 3000000) (disch := omega) only [go_sem, ↓reduceIte, reduceCtorEq, pappend, plen, d0]; refine hK _ _ ?_; clear hK K
    (repeat refine PW.seq ?_); refine PW.cond (t := _) rfl (fun h => ?_) (fun h => ?_)
    rotate_left
    · cases h
    (repeat refine PW.seq ?_); refine PW.rg rfl fun K hK => ?_; simp (maxSteps := 3000000) (disch := omega) only [go_sem, ↓reduceIte, reduceCtorEq, pappend, plen]; refine hK _ _ ?_; clear hK K
    exact PW.ret ⟨_, rfl, Fin.now⟩
  | ok v a1 =>
    have hb := tkU_b hu ha
    rw [hu] at tu hk
    rw [hk]
    simp only [rvU, Rr.at, Rr.bind] at tu ⊢
    clear hk hu
    (repeat refine PW.seq ?_); refine PW.rg rfl fun K hK => ?_; simp (maxSteps := 3000000) (disch := omega) only [go_sem, ↓reduceIte, reduceCtorEq, pappend, plen, g5, tB_v, tB_c, tC_w]; refine VCx.call (tu) rfl ?_; simp (maxSteps := 3000000) (disch := omega) only [go_sem, ↓reduceIte, reduceCtorEq, pappend, plen, g5, tB_v, tB_c, tC_w]; refine hK _ _ ?_; clear hK K
    (repeat refine PW.seq ?_); refine PW.rg rfl fun K hK => ?_; simp (maxSteps := 3000000) (disch := omega) only [go_sem, ↓reduceIte, reduceCtorEq, pappend, plen]; refine hK _ _ ?_; clear hK K
    (repeat refine PW.seq ?_); refine PW.cond (t := _) rfl (fun h => ?_) (fun h => ?_)
    · cases h
    refine PW.skip ?_
    (repeat refine PW.seq ?_); refine PW.rg rfl fun K hK => ?_; simp (maxSteps := 3000000) (disch := omega) only [go_sem, ↓reduceIte, reduceCtorEq, pappend, plen]; refine hK _ _ ?_; clear hK K
    refine PW.to [0, 3, 5] [(0, .ptr (H.length + 5) 0 0), (3, .int .i64 (v : Int)), (5, .int .i64 ((if c.t = 2 then 3 else 7 : Nat) : Int))] (tG H i p n a1 X (mB zMb) (tB s i c (H.length + 4) false)) ?_ ?_
    · by_cases ht2 : c.t = 2
      · have q2 : (c.t == 2) = true := by simp [ht2]
        rw [if_pos ht2]
        (repeat refine PW.seq ?_); refine PW.rg rfl fun K hK => ?_; simp (maxSteps := 3000000) (disch := omega) only [go_sem, ↓reduceIte, reduceCtorEq, pappend, plen, g5, tB_v, tB_c, tC_t, q2]; refine hK _ _ ?_; clear hK K
        (repeat refine PW.seq ?_); refine PW.cond (t := _) rfl (fun h => ?_) (fun h => ?_)
        rotate_left
        · cases h
        (repeat refine PW.seq ?_); refine PW.rg rfl fun K hK => ?_; simp (maxSteps := 3000000) (disch := omega) only [go_sem, ↓reduceIte, reduceCtorEq, pappend, plen]; refine hK _ _ ?_; clear hK K
        exact ⟨rfl, rfl⟩
      · have q2 : (c.t == 2) = false := by simp [ht2]
        rw [if_neg ht2]
        (repeat refine PW.seq ?_); refine PW.rg rfl fun K hK => ?_; simp (maxSteps := 3000000) (disch := omega) only [go_sem, ↓reduceIte, reduceCtorEq, pappend, plen, g5, tB_v, tB_c, tC_t, q2]; refine hK _ _ ?_; clear hK K
        (repeat refine PW.seq ?_); refine PW.cond (t := _) rfl (fun h => ?_) (fun h => ?_)
        · cases h
        exact PW.skip ⟨rfl, rfl⟩
    have hL : (if c.t = 2 then 3 else 7 : Nat) ≤ 7 := by split <;> omega
    have hL0 : 3 ≤ (if c.t = 2 then 3 else 7 : Nat) := by split <;> omega
    generalize (if c.t = 2 then 3 else 7 : Nat) = last at *
    (repeat refine PW.seq ?_); refine PW.block ?_
    by_cases h1 : last < v
    · have d1 : decide ((last : Int) < (v : Int)) = true := decide_eq_true (by omega)
      rw [if_pos h1]
      (repeat refine PW.seq ?_); refine PW.rg rfl fun K hK => ?_; simp (maxSteps := 3000000) (disch := omega) only [go_sem, ↓reduceIte, reduceCtorEq, pappend, plen, d1]; refine hK _ _ ?_; clear hK K
      (repeat refine PW.seq ?_); refine PW.cond (t := _) rfl (fun h => ?_) (fun h => ?_)
      rotate_left
      · cases h
      (repeat refine PW.seq ?_); refine PW.rg rfl fun K hK => ?_; simp (maxSteps := 3000000) (disch := omega) only [go_sem, ↓reduceIte, reduceCtorEq, pappend, plen]; refine hK _ _ ?_; clear hK K
      exact PW.ret ⟨_, rfl, Fin.now⟩
    have d1 : decide ((last : Int) < (v : Int)) = false := decide_eq_false (by omega)
    rw [if_neg h1]
    (repeat refine PW.seq ?_); refine PW.rg rfl fun K hK => ?_; simp (maxSteps := 3000000) (disch := omega) only [go_sem, ↓reduceIte, reduceCtorEq, pappend, plen, d1]; refine hK _ _ ?_; clear hK K
    (repeat refine PW.seq ?_); refine PW.cond (t := _) rfl (fun h => ?_) (fun h => ?_)
    · cases h
    by_cases h2 : v = last
    · have d2 : ((v : Int) == (last : Int)) = true := by simp [h2]
      rw [if_pos h2]
      (repeat refine PW.seq ?_); refine PW.rg rfl fun K hK => ?_; simp (maxSteps := 3000000) (disch := omega) only [go_sem, ↓reduceIte, reduceCtorEq, pappend, plen, d2]; refine hK _ _ ?_; clear hK K
      (repeat refine PW.seq ?_); refine PW.cond (t := _) rfl (fun h => ?_) (fun h => ?_)
      rotate_left
      · cases h
      (repeat refine PW.seq ?_); refine PW.rg rfl fun K hK => ?_; simp (maxSteps := 3000000) (disch := omega) only [go_sem, ↓reduceIte, reduceCtorEq, pappend, plen]; refine VCx.call (ti _) rfl ?_; simp (maxSteps := 3000000) (disch := omega) only [go_sem, ↓reduceIte, reduceCtorEq, pappend, plen]; refine hK _ _ ?_; clear hK K
      (repeat refine PW.seq ?_); refine PW.rg rfl fun K hK => ?_; simp (maxSteps := 3000000) (disch := omega) only [go_sem, ↓reduceIte, reduceCtorEq, pappend, plen]; refine hK _ _ ?_; clear hK K
      exact PW.ret ⟨_, rfl, Fin.now⟩
    have d2 : ((v : Int) == (last : Int)) = false := by rw [beq_eq_false_iff_ne]; omega
    rw [if_neg h2]
    (repeat refine PW.seq ?_); refine PW.rg rfl fun K hK => ?_; simp (maxSteps := 3000000) (disch := omega) only [go_sem, ↓reduceIte, reduceCtorEq, pappend, plen, d2]; refine hK _ _ ?_; clear hK K
    (repeat refine PW.seq ?_); refine PW.cond (t := _) rfl (fun h => ?_) (fun h => ?_)
    · cases h
    by_cases h3 : v = 0
    · have d3 : decide ((0 : Int) < (v : Int)) = false := decide_eq_false (by omega)
      rw [if_pos h3]
      (repeat refine PW.seq ?_); refine PW.rg rfl fun K hK => ?_; simp (maxSteps := 3000000) (disch := omega) only [go_sem, ↓reduceIte, reduceCtorEq, pappend, plen, d3]; refine hK _ _ ?_; clear hK K
      (repeat refine PW.seq ?_); refine PW.cond (t := _) rfl (fun h => ?_) (fun h => ?_)
      · cases h
      refine PW.skip ?_
      (repeat refine PW.seq ?_); refine PW.rg rfl fun K hK => ?_; simp (maxSteps := 3000000) (disch := omega) only [go_sem, ↓reduceIte, reduceCtorEq, pappend, plen]; refine hK _ _ ?_; clear hK K
      exact PW.ret ⟨_, rfl, Fin.now⟩
    have d3 : decide ((0 : Int) < (v : Int)) = true := decide_eq_true (by omega)
    rw [if_neg h3]
    (repeat refine PW.seq ?_); refine PW.rg rfl fun K hK => ?_; simp (maxSteps := 3000000) (disch := omega) only [go_sem, ↓reduceIte, reduceCtorEq, pappend, plen, d3]; refine hK _ _ ?_; clear hK K
    (repeat refine PW.seq ?_); refine PW.cond (t := _) rfl (fun h => ?_) (fun h => ?_)
    rotate_left
    · cases h
    have hv7 : v < 7 := by omega
    have h6 : v = 1 ∨ v = 2 ∨ v = 3 ∨ v = 4 ∨ v = 5 ∨ v = 6 := by omega
    have hm6 : mbc { zMb with k := 2 } = mbc { zMb with k := 2 } := rfl
    have hzl2 := mbc_len { zMb with k := 2 } zl384_len
    clear h1 h2 h3 d1 d2 d3 hb hL hL0 tu
    (repeat refine PW.seq ?_); refine PW.rg rfl fun K hK => ?_; simp (maxSteps := 3000000) (disch := omega) only [go_sem, ↓reduceIte, reduceCtorEq, pappend, plen, g5, g4, s4, s5, tB_v, tB_c, tC_mi, mB_v, mB_c, mB_e, mbc_sk, mB_of, hzl]; refine hK _ _ ?_; clear hK K
    rcases h6 with rfl | rfl | rfl | rfl | rfl | rfl
    all_goals
      (repeat refine PW.seq ?_); refine PW.rg rfl fun K hK => ?_; simp (maxSteps := 3000000) (disch := omega) only [go_sem, ↓reduceIte, reduceCtorEq, pappend, plen, g5, g4, s4, s5, tB_v, tB_c, tC_mi, mB_v, mB_c, mB_e, mbc_su, mB_of, hzl2, Nat.reduceAdd]; refine hK _ _ ?_; clear hK K
      (repeat refine PW.seq ?_); refine PW.rg rfl fun K hK => ?_; simp (maxSteps := 3000000) (disch := omega) only [go_sem, ↓reduceIte, reduceCtorEq, pappend, plen, g5, s5, tB_v, tB_c, tB_e, tC_sh, tC_len, tB_of]; refine hK _ _ ?_; clear hK K
      (repeat refine PW.seq ?_); refine PW.rg rfl fun K hK => ?_; simp (maxSteps := 3000000) (disch := omega) only [go_sem, ↓reduceIte, reduceCtorEq, pappend, plen]; refine hK _ _ ?_; clear hK K
      exact PW.ret ⟨_, rfl, Fin.now⟩
end

end Go.Proofs.Ytcabpncdgagihaa.Sc

namespace Go.Proofs.Ytcabpncdgagihaa.Sc
set_option linter.all false
set_option linter.unusedVariables false
set_option linter.unusedSimpArgs false
open Pm Ty Go.RowKit

theorem tC_x (s : St) (w : Nat) (c : Cx) (mi : Nat) (hl : Bool) (d : Nat) (hd : d < 2) : (tC s w c mi hl)[4 + d * 2]? = some (.int .i64 (sXs s d)) := by
  have : d = 0 ∨ d = 1 := by omega
  rcases this with rfl | rfl <;> rfl
theorem tC_y (s : St) (w : Nat) (c : Cx) (mi : Nat) (hl : Bool) (d : Nat) (hd : d < 2) : (tC s w c mi hl)[4 + d * 2 + 1]? = some (.int .i64 (sYs s d)) := by
  have : d = 0 ∨ d = 1 := by omega
  rcases this with rfl | rfl <;> rfl
theorem tC_sx (s : St) (w : Nat) (c : Cx) (mi : Nat) (hl : Bool) (d : Nat) (hd : d < 2) (x : Int) : (tC s w c mi hl).set (4 + d * 2) (.int .i64 x) = tC (setV s d x (sYs s d)) w c mi hl := by
  have : d = 0 ∨ d = 1 := by omega
  rcases this with rfl | rfl <;> rfl
theorem tC_sy (s : St) (w : Nat) (c : Cx) (mi : Nat) (hl : Bool) (d : Nat) (hd : d < 2) (y : Int) : (tC s w c mi hl).set (4 + d * 2 + 1) (.int .i64 y) = tC (setV s d (sXs s d) y) w c mi hl := by
  have : d = 0 ∨ d = 1 := by omega
  rcases this with rfl | rfl <;> rfl
theorem tC_v (s : St) (w : Nat) (c : Cx) (mi : Nat) (hl : Bool) (d : Nat) (hd : d < 2) : List.take 2 (List.drop (4 + d * 2) (tC s w c mi hl)) = [.int .i64 (sXs s d), .int .i64 (sYs s d)] := by
  have : d = 0 ∨ d = 1 := by omega
  rcases this with rfl | rfl <;> rfl
theorem setV_y (s : St) (d : Nat) (x y z : Int) : setV (setV s d x y) d x z = setV s d x z := by unfold setV; split <;> rfl
theorem setV_X (s : St) (d : Nat) (x y : Int) : sXs (setV s d x y) d = x := by unfold setV sXs; split <;> rfl
theorem setV_Y (s : St) (d : Nat) (x y : Int) : sYs (setV s d x y) d = y := by unfold setV sYs; split <;> rfl
theorem mbc_ss (m : Mb) (d k : Nat) (hd : d < 2) (hk : k < 2) (x : Int) : (mbc m).set (13 + d * 2 + k) (.int .i64 x) = mbc (setSl m d k x) := by
  have h1 : d = 0 ∨ d = 1 := by omega
  have h2 : k = 0 ∨ k = 1 := by omega
  rcases h1 with rfl | rfl <;> rcases h2 with rfl | rfl <;> rfl
theorem mbc_sv (m : Mb) (d k : Nat) (hd : d < 2) (hk : k < 2) (x y : Int) : List.take (5 + d * 4 + k * 2) (mbc m) ++ .int .i64 x :: .int .i64 y :: List.drop (5 + d * 4 + k * 2 + (1 + 1)) (mbc m) = mbc (setVm m d k x y) := by
  have h1 : d = 0 ∨ d = 1 := by omega
  have h2 : k = 0 ∨ k = 1 := by omega
  rcases h1 with rfl | rfl <;> rcases h2 with rfl | rfl <;> rfl
theorem setSl_lv (m : Mb) (d k : Nat) (x : Int) : (setSl m d k x).lv = m.lv := by unfold setSl; split <;> split <;> rfl
theorem setVm_lv (m : Mb) (d k : Nat) (x y : Int) : (setVm m d k x y).lv = m.lv := by unfold setVm; split <;> split <;> rfl

/-- What a part leaves behind. -/
def prtR (H : Heap) (i : Nat) (p : List UInt8) (n : Nat) (X : Heap) (c : Cx) (hl : Bool) (x : Rr (Mb × St)) : PV → Heap → Prop := fun v H' =>
  match x with
  | .ok y a => v = .int .i64 0 ∧ H' = tG H i p n a X (mB y.1) (tB y.2 i c (H.length + 4) hl)
  | .er e _ => v = ecd e ∧ ∃ a m s, a ≤ n ∧ m.lv.length = 384 ∧ H' = tG H i p n a X (mB m) (tB s i c (H.length + 4) hl)

section
variable (H : Heap) (i : Nat) (p : List UInt8) (n : Nat) (X : Heap) (c : Cx) (hl : Bool) (hi : i < H.length) (hX : X.length = 4) (hn : n ≤ 8 * p.length) (hp : p.length ≤ 100000000)
include hi hX hn hp
set_option maxHeartbeats 2000000 in
theorem tvec_ok (m : Mb) (s : St) (d k a : Nat) (hd : d < 2) (hk : k < 2) (hml : m.lv.length = 384) (hs : vrS s) (ha : a ≤ n) : CallEx Try.prog 95 [.ptr (H.length + 5) 0 0, .int .i64 (d : Int), .int .i64 (k : Int)] (tG H i p n a X (mB m) (tB s i c (H.length + 4) hl)) (prtR H i p n X c hl (tkVc c p n m s d k a)) := by
  have g5 := fun a B4 B5 => tG_5 H i p n a X B4 B5 hX
  have g4 := fun a B4 B5 => tG_4 H i p n a X B4 B5 hX
  have s5 := fun a B4 B5 B => tG_s5 H i p n a X B4 B5 hX B
  have s4 := fun a B4 B5 B => tG_s4 H i p n a X B4 B5 hX B
  have gi := fun a B4 B5 => tG_i H i p n a X B4 B5 hi
  have si := fun a B4 B5 a' => tG_si H i p n a X B4 B5 hi a'
  have hlen := mbc_len m hml
  have se := sel_ok c m (H.length + 4) _ (g4 a (mB m) (tB s i c (H.length + 4) hl))
  have tx := fun s => tC_x s i c (H.length + 4) hl d hd
  have ty := fun s => tC_y s i c (H.length + 4) hl d hd
  have tsx := fun s => tC_sx s i c (H.length + 4) hl d hd
  have tsy := fun s => tC_sy s i c (H.length + 4) hl d hd
  have tv := fun s => tC_v s i c (H.length + 4) hl d hd
  generalize hres : tkVc c p n m s d k a = res
  unfold tkVc at hres
  refine CallEx.body (F0 := [(0, .ptr (H.length + 5) 0 0), (1, .int .i64 (d : Int)), (2, .int .i64 (k : Int))]) Try.func95 rfl Try.ntmps95 Try.results95 rfl (by kernel_rfl) rfl ?_
  (repeat refine PW.seq ?_); refine PW.rg rfl fun K hK => ?_; simp (maxSteps := 3000000) (disch := omega) only [go_sem, ↓reduceIte, reduceCtorEq, pappend, plen]; refine hK _ _ ?_; clear hK K
  (repeat refine PW.seq ?_); refine PW.drawt [] [] mix (by kernel_rfl) fun K hK => ?_; simp (maxSteps := 3000000) (disch := omega) only [go_sem, ↓reduceIte, reduceCtorEq, pappend, plen, g5, tB_v, tB_c, tC_c, tC_mi, tC_len, Nat.reduceAdd, Nat.reduceLeDiff]
  refine VCj.now (se) rfl ?_; simp (maxSteps := 3000000) (disch := omega) only [go_sem, ↓reduceIte, reduceCtorEq, pappend, plen]; refine hK _ _ ?_; clear hK K
  suffices hrest : ∀ (m : Mb) (a : Nat), m.lv.length = 384 → a ≤ n → ((tkD p n (sXs s d) 63 a).bind fun x a2 => (tkD p n (sYs s d) 63 a2).bind fun y a3 => .ok (setVm m d k x y, setV s d x y) a3) = res →
      PW Try.prog _ _ [(0, .ptr (H.length + 5) 0 0), (1, .int .i64 (d : Int)), (2, .int .i64 (k : Int))] (tG H i p n a X (mB m) (tB s i c (H.length + 4) hl)) _ by
    cases hsel : (m.fp || fcx c) with
    | false =>
      rw [hsel, if_neg (by decide), Rr.bind_ok] at hres
      (repeat refine PW.seq ?_); refine PW.cond (t := _) rfl (fun h => ?_) (fun h => ?_)
      · cases h
      refine PW.skip ?_
      exact PW.at [0, 1, 2] (hrest m a hml ha hres) rfl rfl
    | true =>
      rw [hsel, if_pos rfl] at hres
      (repeat refine PW.seq ?_); refine PW.cond (t := _) rfl (fun h => ?_) (fun h => ?_)
      rotate_left
      · cases h
      by_cases han : a < n
      · have hf : tkF p n a = .ok (decide (ubit p a = 1)) (a + 1) := by unfold tkF; rw [if_pos han]
        rw [hf, Rr.bind_ok, Rr.bind_ok] at hres
        have hub := ubit_lt p a
        have t := rtake_ok i p n a 1 _ (gi a (mB m) (tB s i c (H.length + 4) hl)) (by omega) hn hp (by omega)
        rw [si, show vl p a 1 = ubit p a by simp [vl]] at t
        have hbn : ((decide (ubit p a = 1)).toNat : Int) = (ubit p a : Int) := by
          have : ubit p a = 0 ∨ ubit p a = 1 := by omega
          rcases this with e | e <;> rw [e] <;> rfl
        rw [hbn] at hres
        have hst := mbc_ss m d k hd hk (ubit p a : Int)
        (repeat refine PW.seq ?_); refine PW.rg rfl fun K hK => ?_; simp (maxSteps := 3000000) (disch := omega) only [go_sem, ↓reduceIte, reduceCtorEq, pappend, plen, g5, tB_v, tB_c, tC_w]; refine VCx.call (t) rfl ?_; simp (maxSteps := 3000000) (disch := omega) only [go_sem, ↓reduceIte, reduceCtorEq, pappend, plen, g5, tB_v, tB_c, tC_w]; refine hK _ _ ?_; clear hK K
        (repeat refine PW.seq ?_); refine PW.rg rfl fun K hK => ?_; simp (maxSteps := 3000000) (disch := omega) only [go_sem, ↓reduceIte, reduceCtorEq, pappend, plen]; refine hK _ _ ?_; clear hK K
        (repeat refine PW.seq ?_); refine PW.cond (t := _) rfl (fun h => ?_) (fun h => ?_)
        · cases h
        refine PW.skip ?_
        (repeat refine PW.seq ?_); refine PW.rg rfl fun K hK => ?_; simp (maxSteps := 3000000) (disch := omega) only [go_sem, ↓reduceIte, reduceCtorEq, pappend, plen, g5, g4, s4, tB_v, tB_c, tC_mi, mB_v, mB_c, mB_e, hlen, hst, mB_of]; refine hK _ _ ?_; clear hK K
        exact PW.at [0, 1, 2] (hrest _ (a + 1) (by rw [setSl_lv]; exact hml) (by omega) hres) rfl rfl
      · have hf : tkF p n a = .er 3 a := by unfold tkF; rw [if_neg han]
        rw [hf, Rr.bind_er, Rr.bind_er] at hres
        have t := rtake_short i p n a 1 _ (gi a (mB m) (tB s i c (H.length + 4) hl)) (by omega) (by omega) (by omega) (by omega)
        (repeat refine PW.seq ?_); refine PW.rg rfl fun K hK => ?_; simp (maxSteps := 3000000) (disch := omega) only [go_sem, ↓reduceIte, reduceCtorEq, pappend, plen, g5, tB_v, tB_c, tC_w]; refine VCx.call (t) rfl ?_; simp (maxSteps := 3000000) (disch := omega) only [go_sem, ↓reduceIte, reduceCtorEq, pappend, plen, g5, tB_v, tB_c, tC_w]; refine hK _ _ ?_; clear hK K
        (repeat refine PW.seq ?_); refine PW.rg rfl fun K hK => ?_; simp (maxSteps := 3000000) (disch := omega) only [go_sem, ↓reduceIte, reduceCtorEq, pappend, plen]; refine hK _ _ ?_; clear hK K
        (repeat refine PW.seq ?_); refine PW.cond (t := _) rfl (fun h => ?_) (fun h => ?_)
        rotate_left
        · cases h
        (repeat refine PW.seq ?_); refine PW.rg rfl fun K hK => ?_; simp (maxSteps := 3000000) (disch := omega) only [go_sem, ↓reduceIte, reduceCtorEq, pappend, plen]; refine hK _ _ ?_; clear hK K
        refine PW.ret ⟨_, rfl, .inl ?_⟩
        rw [← hres]
        exact ⟨rfl, a, m, s, ha, hml, rfl⟩
  clear hres ha hml hlen se
  intro m a hml ha hres
  have hlen := mbc_len m hml
  have hsd := hs d
  (repeat refine PW.seq ?_); refine PW.rg rfl fun K hK => ?_; simp (maxSteps := 3000000) (disch := omega) only [go_sem, ↓reduceIte, reduceCtorEq, pappend, plen, g5, tB_v]; refine hK _ _ ?_; clear hK K
  have t1 := tdist_ok H i p n a X (mB m) c s hl hi hX ha hn hp (sXs s d) 63 (by omega) (by omega)
  cases h1 : tkD p n (sXs s d) 63 a with
  | er e a1 =>
    have hb := tkD_e h1 ha
    rw [h1] at t1 hres
    simp only [rvS, Rr.at, Rr.bind] at t1 hres
    have d0 : ((e : Int) + 1 != 0) = true := by simp; omega
    (repeat refine PW.seq ?_); refine PW.rg rfl fun K hK => ?_; simp (maxSteps := 3000000) (disch := omega) only [go_sem, ↓reduceIte, reduceCtorEq, pappend, plen, g5, tB_v, tB_c, tx, s5, tsx, tB_e, tB_of, tC_len]; refine VCx.call (t1) rfl ?_; simp (maxSteps := 3000000) (disch := omega) only [go_sem, ↓reduceIte, reduceCtorEq, pappend, plen, g5, tB_v, tB_c, tx, s5, tsx, tB_e, tB_of, tC_len]; refine hK _ _ ?_; clear hK K
    (repeat refine PW.seq ?_); refine PW.rg rfl fun K hK => ?_; simp (maxSteps := 3000000) (disch := omega) only [go_sem, ↓reduceIte, reduceCtorEq, pappend, plen, d0]; refine hK _ _ ?_; clear hK K
    (repeat refine PW.seq ?_); refine PW.cond (t := _) rfl (fun h => ?_) (fun h => ?_)
    rotate_left
    · cases h
    (repeat refine PW.seq ?_); refine PW.rg rfl fun K hK => ?_; simp (maxSteps := 3000000) (disch := omega) only [go_sem, ↓reduceIte, reduceCtorEq, pappend, plen]; refine hK _ _ ?_; clear hK K
    refine PW.ret ⟨_, rfl, .inl ?_⟩
    rw [← hres]
    exact ⟨rfl, a1, m, _, hb.2.1, hml, rfl⟩
  | ok x a1 =>
    have hb := tkD_b h1 ha
    rw [h1] at t1 hres
    simp only [rvS, Rr.at] at t1
    rw [Rr.bind_ok] at hres
    (repeat refine PW.seq ?_); refine PW.rg rfl fun K hK => ?_; simp (maxSteps := 3000000) (disch := omega) only [go_sem, ↓reduceIte, reduceCtorEq, pappend, plen, g5, tB_v, tB_c, tx, s5, tsx, tB_e, tB_of, tC_len]; refine VCx.call (t1) rfl ?_; simp (maxSteps := 3000000) (disch := omega) only [go_sem, ↓reduceIte, reduceCtorEq, pappend, plen, g5, tB_v, tB_c, tx, s5, tsx, tB_e, tB_of, tC_len]; refine hK _ _ ?_; clear hK K
    (repeat refine PW.seq ?_); refine PW.rg rfl fun K hK => ?_; simp (maxSteps := 3000000) (disch := omega) only [go_sem, ↓reduceIte, reduceCtorEq, pappend, plen]; refine hK _ _ ?_; clear hK K
    (repeat refine PW.seq ?_); refine PW.cond (t := _) rfl (fun h => ?_) (fun h => ?_)
    · cases h
    refine PW.skip ?_
    have t2 := tdist_ok H i p n a1 X (mB m) c (setV s d x (sYs s d)) hl hi hX hb.2.2 hn hp (sYs s d) 63 (by omega) (by omega)
    have ty2 := ty (setV s d x (sYs s d))
    rw [setV_Y] at ty2
    have tsy2 := tsy (setV s d x (sYs s d))
    rw [setV_X] at tsy2
    simp only [setV_y] at tsy2
    cases h2 : tkD p n (sYs s d) 63 a1 with
    | er e a2 =>
      have hb2 := tkD_e h2 hb.2.2
      rw [h2] at t2 hres
      simp only [rvS, Rr.at, Rr.bind] at t2 hres
      have d0 : ((e : Int) + 1 != 0) = true := by simp; omega
      (repeat refine PW.seq ?_); refine PW.rg rfl fun K hK => ?_; simp (maxSteps := 3000000) (disch := omega) only [go_sem, ↓reduceIte, reduceCtorEq, pappend, plen, g5, tB_v, tB_c, ty2, s5, tsy2, tB_e, tB_of, tC_len]; refine VCx.call (t2) rfl ?_; simp (maxSteps := 3000000) (disch := omega) only [go_sem, ↓reduceIte, reduceCtorEq, pappend, plen, g5, tB_v, tB_c, ty2, s5, tsy2, tB_e, tB_of, tC_len]; refine hK _ _ ?_; clear hK K
      (repeat refine PW.seq ?_); refine PW.rg rfl fun K hK => ?_; simp (maxSteps := 3000000) (disch := omega) only [go_sem, ↓reduceIte, reduceCtorEq, pappend, plen, d0]; refine hK _ _ ?_; clear hK K
      (repeat refine PW.seq ?_); refine PW.cond (t := _) rfl (fun h => ?_) (fun h => ?_)
      rotate_left
      · cases h
      (repeat refine PW.seq ?_); refine PW.rg rfl fun K hK => ?_; simp (maxSteps := 3000000) (disch := omega) only [go_sem, ↓reduceIte, reduceCtorEq, pappend, plen]; refine hK _ _ ?_; clear hK K
      refine PW.ret ⟨_, rfl, .inl ?_⟩
      rw [← hres]
      exact ⟨rfl, a2, m, _, hb2.2.1, hml, rfl⟩
    | ok y a2 =>
      have hb2 := tkD_b h2 hb.2.2
      rw [h2] at t2 hres
      simp only [rvS, Rr.at] at t2
      rw [Rr.bind_ok] at hres
      have tv2 := tv (setV s d x y)
      rw [setV_X, setV_Y] at tv2
      have hsv := mbc_sv m d k hd hk x y
      (repeat refine PW.seq ?_); refine PW.rg rfl fun K hK => ?_; simp (maxSteps := 3000000) (disch := omega) only [go_sem, ↓reduceIte, reduceCtorEq, pappend, plen, g5, tB_v, tB_c, ty2, s5, tsy2, tB_e, tB_of, tC_len]; refine VCx.call (t2) rfl ?_; simp (maxSteps := 3000000) (disch := omega) only [go_sem, ↓reduceIte, reduceCtorEq, pappend, plen, g5, tB_v, tB_c, ty2, s5, tsy2, tB_e, tB_of, tC_len]; refine hK _ _ ?_; clear hK K
      (repeat refine PW.seq ?_); refine PW.rg rfl fun K hK => ?_; simp (maxSteps := 3000000) (disch := omega) only [go_sem, ↓reduceIte, reduceCtorEq, pappend, plen]; refine hK _ _ ?_; clear hK K
      (repeat refine PW.seq ?_); refine PW.cond (t := _) rfl (fun h => ?_) (fun h => ?_)
      · cases h
      refine PW.skip ?_
      (repeat refine PW.seq ?_); refine PW.drawi [H.length + 4] [(81, [0]), (87, [0]), (88, [0]), (89, [0]), (90, [0])] [] [] mix (by kernel_rfl) (by simp <;> omega) fun K hK => ?_
      simp (maxSteps := 3000000) (disch := omega) only [go_sem, ↓reduceIte, reduceCtorEq, pappend, plen, g5, g4, s4, tB_v, tB_c, tC_mi, tC_len, tv2, mB_v, mB_c, mB_e, hlen, hsv, mB_of]
      refine hK _ _ ?_; clear hK K
      (repeat refine PW.seq ?_); refine PW.rg rfl fun K hK => ?_; simp (maxSteps := 3000000) (disch := omega) only [go_sem, ↓reduceIte, reduceCtorEq, pappend, plen]; refine hK _ _ ?_; clear hK K
      refine PW.ret ⟨_, rfl, .inl ?_⟩
      rw [← hres]
      exact ⟨rfl, rfl⟩
end

end Go.Proofs.Ytcabpncdgagihaa.Sc

namespace Go.Proofs.Ytcabpncdgagihaa.Sc
set_option linter.all false
set_option linter.unusedVariables false
set_option linter.unusedSimpArgs false
open Pm Ty Go.RowKit

theorem tflag_gen (L : Heap) (ti i : Nat) (p : List UInt8) (n a : Nat) (c : Cx) (s : St) (mi : Nat) (hl : Bool) (hT : L[ti]? = some (tB s i c mi hl)) (hR : L[i]? = some (rA p n a)) (ha : a ≤ n) (hn : n ≤ 8 * p.length) (hp : p.length ≤ 100000000) :
    CallOk Try.prog 94 [.ptr ti 0 0] L (rvF (tkF p n a)) (L.set i (rA p n (tkF p n a).at)) := by
  have hself := set_self hR
  cases hf : tkF p n a with
  | ok b a1 =>
    obtain ⟨rfl, h2, rfl⟩ := tkF_b hf
    have t := rtake_ok i p n a 1 _ hR (by omega) hn hp (by omega)
    rw [show vl p a 1 = ubit p a by simp [vl]] at t
    have e1 : ((ubit p a : Int) == 1) = decide (ubit p a = 1) := by
      rw [Bool.eq_iff_iff]; simp; omega
    simp only [rvF, Rr.at]
    generalize L.set i (rA p n (a + 1)) = Hz at *
    refine CallOk.body (F0 := [(0, .ptr ti 0 0)]) Try.func94 rfl Try.ntmps94 Try.results94 rfl (by kernel_rfl) rfl ?_
    (repeat refine PW.seq ?_); refine PW.rg rfl fun K hK => ?_; simp (maxSteps := 3000000) (disch := omega) only [go_sem, ↓reduceIte, reduceCtorEq, pappend, plen]; refine hK _ _ ?_; clear hK K
    (repeat refine PW.seq ?_); refine PW.rg rfl fun K hK => ?_; simp (maxSteps := 3000000) (disch := omega) only [go_sem, ↓reduceIte, reduceCtorEq, pappend, plen, hT, tB_v, tB_c, tC_w]; refine VCx.call (t) rfl ?_; simp (maxSteps := 3000000) (disch := omega) only [go_sem, ↓reduceIte, reduceCtorEq, pappend, plen, hT, tB_v, tB_c, tC_w]; refine hK _ _ ?_; clear hK K
    (repeat refine PW.seq ?_); refine PW.rg rfl fun K hK => ?_; simp (maxSteps := 3000000) (disch := omega) only [go_sem, ↓reduceIte, reduceCtorEq, pappend, plen, e1]; refine hK _ _ ?_; clear hK K
    exact PW.ret ⟨_, rfl, Fin.now⟩
  | er e a1 =>
    obtain ⟨rfl, rfl, h2⟩ := tkF_e hf
    have t := rtake_short i p n a1 1 _ hR (by omega) (by omega) (by omega) (by omega)
    simp only [rvF, Rr.at, hself]
    refine CallOk.body (F0 := [(0, .ptr ti 0 0)]) Try.func94 rfl Try.ntmps94 Try.results94 rfl (by kernel_rfl) rfl ?_
    (repeat refine PW.seq ?_); refine PW.rg rfl fun K hK => ?_; simp (maxSteps := 3000000) (disch := omega) only [go_sem, ↓reduceIte, reduceCtorEq, pappend, plen]; refine hK _ _ ?_; clear hK K
    (repeat refine PW.seq ?_); refine PW.rg rfl fun K hK => ?_; simp (maxSteps := 3000000) (disch := omega) only [go_sem, ↓reduceIte, reduceCtorEq, pappend, plen, hT, tB_v, tB_c, tC_w]; refine VCx.call (t) rfl ?_; simp (maxSteps := 3000000) (disch := omega) only [go_sem, ↓reduceIte, reduceCtorEq, pappend, plen, hT, tB_v, tB_c, tC_w]; refine hK _ _ ?_; clear hK K
    (repeat refine PW.seq ?_); refine PW.rg rfl fun K hK => ?_; simp (maxSteps := 3000000) (disch := omega) only [go_sem, ↓reduceIte, reduceCtorEq, pappend, plen]; refine hK _ _ ?_; clear hK K
    exact PW.ret ⟨_, rfl, Fin.now⟩
theorem mbc_sp (m : Mb) (b : Bool) : (mbc m).set 3 (.bool b) = mbc { m with fp := b } := rfl
theorem mbc_sd (m : Mb) (b : Bool) : (mbc m).set 4 (.bool b) = mbc { m with fd := b } := rfl
theorem mbc_k (m : Mb) : (mbc m)[0]? = some (.int .i64 m.k) := rfl
theorem mbc_us (m : Mb) : List.take 2 (List.drop 1 (mbc m)) = [.bool m.ua, .bool m.ub] := rfl
/-- Unchanged by vectors. -/
def SameU (m m' : Mb) : Prop := m'.lv = m.lv ∧ m'.ua = m.ua ∧ m'.ub = m.ub ∧ m'.fp = m.fp ∧ m'.k = m.k
theorem SameU.refl (m : Mb) : SameU m m := ⟨rfl, rfl, rfl, rfl, rfl⟩
theorem SameU.trans {a b c : Mb} (h : SameU a b) (k : SameU b c) : SameU a c := ⟨k.1.trans h.1, k.2.1.trans h.2.1, k.2.2.1.trans h.2.2.1, k.2.2.2.1.trans h.2.2.2.1, k.2.2.2.2.trans h.2.2.2.2⟩
theorem setSl_same (m : Mb) (d k : Nat) (x : Int) : SameU m (setSl m d k x) := by unfold setSl; split <;> split <;> exact ⟨rfl, rfl, rfl, rfl, rfl⟩
theorem setVm_same (m : Mb) (d k : Nat) (x y : Int) : SameU m (setVm m d k x y) := by unfold setVm; split <;> split <;> exact ⟨rfl, rfl, rfl, rfl, rfl⟩
theorem vrS_setV {s : St} (hs : vrS s) (d : Nat) {x y : Int} (hx : -63 ≤ x ∧ x ≤ 63) (hy : -63 ≤ y ∧ y ≤ 63) : vrS (setV s d x y) := fun e => by
  have h0 := hs 0
  have h1 := hs 1
  have he := hs e
  unfold setV
  split
  · unfold sXs sYs; dsimp only
    split
    · exact ⟨hx, hy⟩
    · exact h1
  · unfold sXs sYs; dsimp only
    split
    · exact h0
    · exact ⟨hx, hy⟩
theorem tkVc_b {c : Cx} {p : List UInt8} {n : Nat} {m : Mb} {s : St} {d k a : Nat} {y : Mb × St} {a1 : Nat} (h : tkVc c p n m s d k a = .ok y a1) (ha : a ≤ n) (hs : vrS s) : a1 ≤ n ∧ SameU m y.1 ∧ vrS y.2 := by
  unfold tkVc at h
  suffices hr : ∀ (m' : Mb) (a' : Nat), SameU m m' → a' ≤ n → ((tkD p n (sXs s d) 63 a').bind fun x a2 => (tkD p n (sYs s d) 63 a2).bind fun y a3 => .ok (setVm m' d k x y, setV s d x y) a3) = .ok y a1 → a1 ≤ n ∧ SameU m y.1 ∧ vrS y.2 by
    split at h
    · cases hf : tkF p n a with
      | er e a2 => rw [hf] at h; cases h
      | ok b a2 =>
        have := tkF_b hf
        rw [hf, Rr.bind_ok, Rr.bind_ok] at h
        exact hr _ _ (setSl_same m d k _) (by omega) h
    · rw [Rr.bind_ok] at h
      exact hr _ _ (.refl m) ha h
  intro m' a' hm' ha' h
  cases h1 : tkD p n (sXs s d) 63 a' with
  | er e a2 => rw [h1] at h; cases h
  | ok x a2 =>
    have b1 := tkD_b h1 ha'
    rw [h1, Rr.bind_ok] at h
    cases h2 : tkD p n (sYs s d) 63 a2 with
    | er e a3 => rw [h2] at h; cases h
    | ok z a3 =>
      have b2 := tkD_b h2 b1.2.2
      rw [h2, Rr.bind_ok] at h
      injection h with e1 e2
      subst e1 e2
      exact ⟨b2.2.2, hm'.trans (setVm_same _ _ _ _ _), vrS_setV hs d (by omega) (by omega)⟩
theorem tkVs_b {c : Cx} {p : List UInt8} {n d : Nat} : ∀ (r k : Nat) (m : Mb) (s : St) (a : Nat) {y : Mb × St} {a1 : Nat}, tkVs c p n d r k m s a = .ok y a1 → a ≤ n → vrS s → a1 ≤ n ∧ SameU m y.1 ∧ vrS y.2
  | 0, k, m, s, a, y, a1, h, ha, hs => by
    simp only [tkVs] at h
    injection h with e1 e2
    subst e1 e2
    exact ⟨ha, .refl m, hs⟩
  | r + 1, k, m, s, a, y, a1, h, ha, hs => by
    simp only [tkVs] at h
    cases h1 : tkVc c p n m s d k a with
    | er e a2 => rw [h1] at h; cases h
    | ok x a2 =>
      obtain ⟨b1, b2, b3⟩ := tkVc_b h1 ha hs
      rw [h1, Rr.bind_ok] at h
      obtain ⟨c1, c2, c3⟩ := tkVs_b r (k + 1) x.1 x.2 a2 h b1 b3
      exact ⟨c1, b2.trans c2, c3⟩
theorem tkDr_b {c : Cx} {p : List UInt8} {n d : Nat} {m : Mb} {s : St} {a : Nat} {y : Mb × St} {a1 : Nat} (h : tkDr c p n m s d a = .ok y a1) (ha : a ≤ n) (hs : vrS s) : a1 ≤ n ∧ SameU m y.1 ∧ vrS y.2 := by
  unfold tkDr at h
  split at h
  · exact tkVs_b _ _ _ _ _ h ha hs
  · injection h with e1 e2
    subst e1 e2
    exact ⟨ha, .refl m, hs⟩

section
variable (H : Heap) (i : Nat) (p : List UInt8) (n : Nat) (X : Heap) (c : Cx) (hl : Bool) (hi : i < H.length) (hX : X.length = 4) (hn : n ≤ 8 * p.length) (hp : p.length ≤ 100000000)
include hi hX hn hp
set_option maxHeartbeats 4000000 in
theorem tpred_ok (m : Mb) (s : St) (a : Nat) (hml : m.lv.length = 384) (hs : vrS s) (ha : a ≤ n) : CallEx Try.prog 56 [.ptr (H.length + 5) 0 0] (tG H i p n a X (mB m) (tB s i c (H.length + 4) hl)) (prtR H i p n X c hl (tkPr c p n m s a)) := by
  have g5 := fun a B4 B5 => tG_5 H i p n a X B4 B5 hX
  have g4 := fun a B4 B5 => tG_4 H i p n a X B4 B5 hX
  have s5 := fun a B4 B5 B => tG_s5 H i p n a X B4 B5 hX B
  have s4 := fun a B4 B5 B => tG_s4 H i p n a X B4 B5 hX B
  have gi := fun a B4 B5 => tG_i H i p n a X B4 B5 hi
  have si := fun a B4 B5 a' => tG_si H i p n a X B4 B5 hi a'
  have hlen := mbc_len m hml
  have bo := fun K => bcx_ok c K
  generalize hres : tkPr c p n m s a = res
  unfold tkPr at hres
  by_cases hk : m.k = 2
  rotate_left
  · rw [if_neg hk] at hres
    have d1 : decide (m.k = 2) = false := decide_eq_false hk
    have d2 : (m.k != 2) = true := by simp [hk]
    refine CallEx.body (F0 := [(0, .ptr (H.length + 5) 0 0)]) Try.func56 rfl Try.ntmps56 Try.results56 rfl (by kernel_rfl) rfl ?_
    (repeat refine PW.seq ?_); refine PW.rg rfl fun K hK => ?_; simp (maxSteps := 3000000) (disch := omega) only [go_sem, ↓reduceIte, reduceCtorEq, pappend, plen]; refine hK _ _ ?_; clear hK K
    (repeat refine PW.seq ?_); refine PW.rg rfl fun K hK => ?_; simp (maxSteps := 3000000) (disch := omega) only [go_sem, ↓reduceIte, reduceCtorEq, pappend, plen, g5, g4, tB_v, tB_c, tC_mi, mB_v, mB_c, mbc_k, d2]; refine hK _ _ ?_; clear hK K
    (repeat refine PW.seq ?_); refine PW.cond (t := _) rfl (fun h => ?_) (fun h => ?_)
    rotate_left
    · cases h
    (repeat refine PW.seq ?_); refine PW.rg rfl fun K hK => ?_; simp (maxSteps := 3000000) (disch := omega) only [go_sem, ↓reduceIte, reduceCtorEq, pappend, plen]; refine hK _ _ ?_; clear hK K
    refine PW.ret ⟨_, rfl, .inl ?_⟩
    rw [← hres]
    exact ⟨rfl, rfl⟩
  rw [if_pos hk] at hres
  have d2 : (m.k != 2) = false := by simp [hk]
  refine CallEx.body (F0 := [(0, .ptr (H.length + 5) 0 0)]) Try.func56 rfl Try.ntmps56 Try.results56 rfl (by kernel_rfl) rfl ?_
  (repeat refine PW.seq ?_); refine PW.rg rfl fun K hK => ?_; simp (maxSteps := 3000000) (disch := omega) only [go_sem, ↓reduceIte, reduceCtorEq, pappend, plen]; refine hK _ _ ?_; clear hK K
  (repeat refine PW.seq ?_); refine PW.rg rfl fun K hK => ?_; simp (maxSteps := 3000000) (disch := omega) only [go_sem, ↓reduceIte, reduceCtorEq, pappend, plen, g5, g4, tB_v, tB_c, tC_mi, mB_v, mB_c, mbc_k, d2]; refine hK _ _ ?_; clear hK K
  (repeat refine PW.seq ?_); refine PW.cond (t := _) rfl (fun h => ?_) (fun h => ?_)
  · cases h
  refine PW.skip ?_
  suffices hrest : ∀ (m : Mb) (a : Nat), m.lv.length = 384 → a ≤ n → tkDs c p n 2 0 m s a = res → PW Try.prog _ _ [(0, .ptr (H.length + 5) 0 0)] (tG H i p n a X (mB m) (tB s i c (H.length + 4) hl)) _ by
    (repeat refine PW.seq ?_); refine PW.rg rfl fun K hK => ?_; simp (maxSteps := 3000000) (disch := omega) only [go_sem, ↓reduceIte, reduceCtorEq, pappend, plen, g5, tB_v, tB_c, tC_c, tC_len, Nat.reduceAdd, Nat.reduceLeDiff]; refine VCx.call (bo _) rfl ?_; simp (maxSteps := 3000000) (disch := omega) only [go_sem, ↓reduceIte, reduceCtorEq, pappend, plen, g5, tB_v, tB_c, tC_c, tC_len, Nat.reduceAdd, Nat.reduceLeDiff]; refine hK _ _ ?_; clear hK K
    cases hbv : bcx c with
    | false =>
      rw [hbv, if_neg (by decide), Rr.bind_ok] at hres
      (repeat refine PW.seq ?_); refine PW.cond (t := _) rfl (fun h => ?_) (fun h => ?_)
      · cases h
      refine PW.skip ?_
      exact PW.at [0] (hrest m a hml ha hres) rfl rfl
    | true =>
      rw [hbv, if_pos rfl] at hres
      (repeat refine PW.seq ?_); refine PW.cond (t := _) rfl (fun h => ?_) (fun h => ?_)
      rotate_left
      · cases h
      (repeat refine PW.seq ?_); refine PW.drawi [i, H.length + 4] [(24, [1]), (25, [0]), (29, [1]), (30, [1])] [] [] mix (by kernel_rfl) (by simp <;> omega) fun K hK => ?_
      simp (maxSteps := 3000000) (disch := omega) only [go_sem, ↓reduceIte, reduceCtorEq, pappend, plen, g5, tB_v, tB_c, tC_mi]
      refine VCj.wr1 (gi a (mB m) (tB s i c (H.length + 4) hl)) (fun L hL hG => tflag_gen L (H.length + 5) i p n a c s (H.length + 4) hl ((hG.out _ (by simp; omega)).trans (g5 _ _ _)) hL ha hn hp) (by simp (maxSteps := 3000000) (disch := omega) only [go_sem, ↓reduceIte, reduceCtorEq, pappend, plen]) (.inl rfl) rfl ?_
      rw [si]
      cases hf : tkF p n a with
      | ok b a1 =>
        obtain ⟨rfl, h2, _⟩ := tkF_b hf
        rw [hf, Rr.bind_ok, Rr.bind_ok] at hres
        simp only [rvF, Rr.at]
        simp (maxSteps := 3000000) (disch := omega) only [go_sem, ↓reduceIte, reduceCtorEq, pappend, plen, g4, s4, mB_v, mB_c, mB_e, hlen, mbc_sp, mB_of]
        refine hK _ _ ?_; clear hK K
        (repeat refine PW.seq ?_); refine PW.rg rfl fun K hK => ?_; simp (maxSteps := 3000000) (disch := omega) only [go_sem, ↓reduceIte, reduceCtorEq, pappend, plen]; refine hK _ _ ?_; clear hK K
        (repeat refine PW.seq ?_); refine PW.cond (t := _) rfl (fun h => ?_) (fun h => ?_)
        · cases h
        refine PW.skip ?_
        exact PW.at [0] (hrest { m with fp := b } (a + 1) hml (by omega) hres) rfl rfl
      | er e a1 =>
        obtain ⟨rfl, rfl, h2⟩ := tkF_e hf
        rw [hf, Rr.bind_er, Rr.bind_er] at hres
        simp only [rvF, Rr.at]
        simp (maxSteps := 3000000) (disch := omega) only [go_sem, ↓reduceIte, reduceCtorEq, pappend, plen, g4, s4, mB_v, mB_c, mB_e, hlen, mbc_sp, mB_of]
        refine hK _ _ ?_; clear hK K
        (repeat refine PW.seq ?_); refine PW.rg rfl fun K hK => ?_; simp (maxSteps := 3000000) (disch := omega) only [go_sem, ↓reduceIte, reduceCtorEq, pappend, plen]; refine hK _ _ ?_; clear hK K
        (repeat refine PW.seq ?_); refine PW.cond (t := _) rfl (fun h => ?_) (fun h => ?_)
        rotate_left
        · cases h
        (repeat refine PW.seq ?_); refine PW.rg rfl fun K hK => ?_; simp (maxSteps := 3000000) (disch := omega) only [go_sem, ↓reduceIte, reduceCtorEq, pappend, plen]; refine hK _ _ ?_; clear hK K
        refine PW.ret ⟨_, rfl, .inl ?_⟩
        rw [← hres]
        exact ⟨rfl, a1, { m with fp := false }, s, ha, hml, rfl⟩
  clear hres ha hml hlen
  intro m a hml ha hres
  have ve := fun m1 s1 a1 => vecs_ok m1 (H.length + 4) _ (g4 a1 (mB m1) (tB s1 i c (H.length + 4) hl))
  have vc := fun m1 s1 d k a1 hd hk hml hs ha => tvec_ok H i p n X c hl hi hX hn hp m1 s1 d k a1 hd hk hml hs ha
  have hlen := mbc_len m hml
  (repeat refine PW.seq ?_); refine PW.rg rfl fun K hK => ?_; simp (maxSteps := 3000000) (disch := omega) only [go_sem, ↓reduceIte, reduceCtorEq, pappend, plen, g5, g4, tB_v, tB_c, tC_mi, mB_v, mB_c, mbc_us, hlen, Nat.reduceAdd, Nat.reduceLeDiff]; refine hK _ _ ?_; clear hK K
  (repeat refine PW.seq ?_); refine PW.block (PW.loop ?_)
  suffices hl1 : ∀ (d : Nat) (m1 : Mb) (s1 : St) (a1 : Nat), d ≤ 2 → SameU m m1 → vrS s1 → a1 ≤ n → tkDs c p n (2 - d) d m1 s1 a1 = res → PL Try.prog _ _ [(0, .ptr (H.length + 5) 0 0), (40, .agg [.bool m.ua, .bool m.ub]), (41, .int .i64 (d : Int))] (tG H i p n a1 X (mB m1) (tB s1 i c (H.length + 4) hl)) _ by
    exact PL.at [0, 40, 41] (hl1 0 m s a (by omega) (.refl m) hs ha hres) rfl rfl
  clear hres ha hlen hs
  intro d m1 s1 a1 hd hm1 hs1 ha1 hres
  induction hdd : 2 - d using Nat.strongRecOn generalizing d m1 s1 a1 with
  | _ dd ih =>
    refine PL.round ?_; (repeat refine PW.seq ?_); refine PW.rg rfl fun K hK => ?_; simp (maxSteps := 3000000) (disch := omega) only [go_sem, ↓reduceIte, reduceCtorEq, pappend, plen]; refine hK _ _ ?_; clear hK K
    (repeat refine PW.seq ?_); refine PW.cond (t := _) rfl (fun h => ?_) (fun h => ?_)
    rotate_left
    · have h6 : d = 2 := by have := of_decide_eq_false h; omega
      subst h6
      refine PW.exit ?_
      simp only [Nat.sub_self, tkDs] at hres
      (repeat refine PW.seq ?_); refine PW.rg rfl fun K hK => ?_; simp (maxSteps := 3000000) (disch := omega) only [go_sem, ↓reduceIte, reduceCtorEq, pappend, plen]; refine hK _ _ ?_; clear hK K
      refine PW.ret ⟨_, rfl, .inl ?_⟩
      rw [← hres]
      exact ⟨rfl, rfl⟩
    have h6 : d < 2 := by have := of_decide_eq_true h; omega
    obtain ⟨n', hn'⟩ : ∃ n', 2 - d = n' + 1 := ⟨1 - d, by omega⟩
    rw [hn', tkDs] at hres
    have hnx := fun m1 s1 a1 => ih (2 - (d + 1)) (by omega) (d + 1) m1 s1 a1 (by omega)
    rw [show 2 - (d + 1) = n' by omega] at hnx
    have hus : ([.bool m.ua, .bool m.ub] : List PV)[d]? = some (.bool (usd m1 d)) := by
      have : d = 0 ∨ d = 1 := by omega
      unfold usd
      rw [hm1.2.1, hm1.2.2.1]
      rcases this with rfl | rfl <;> rfl
    have hdr : tkDr c p n m1 s1 d a1 = if usd m1 d then tkVs c p n d (nvM m1) 0 m1 s1 a1 else .ok (m1, s1) a1 := rfl
    rw [hdr] at hres
    refine PW.skip ?_; (repeat refine PW.seq ?_); refine PW.block ?_
    (repeat refine PW.seq ?_); refine PW.rg rfl fun K hK => ?_; simp (maxSteps := 3000000) (disch := omega) only [go_sem, ↓reduceIte, reduceCtorEq, pappend, plen, hus]; refine hK _ _ ?_; clear hK K
    (repeat refine PW.seq ?_); refine PW.rg rfl fun K hK => ?_; simp (maxSteps := 3000000) (disch := omega) only [go_sem, ↓reduceIte, reduceCtorEq, pappend, plen]; refine hK _ _ ?_; clear hK K
    cases hu : usd m1 d with
    | false =>
      rw [hu, if_neg (by decide), Rr.bind_ok] at hres
      (repeat refine PW.seq ?_); refine PW.cond (t := _) rfl (fun h => ?_) (fun h => ?_)
      rotate_left
      · cases h
      refine PW.exit ?_
      (repeat refine PW.seq ?_); refine PW.rg rfl fun K hK => ?_; simp (maxSteps := 3000000) (disch := omega) only [go_sem, ↓reduceIte, reduceCtorEq, pappend, plen]; refine hK _ _ ?_; clear hK K
      exact PL.at [0, 40, 41] (hnx m1 s1 a1 hm1 hs1 ha1 hres rfl) rfl rfl
    | true =>
      rw [hu, if_pos rfl] at hres
      (repeat refine PW.seq ?_); refine PW.cond (t := _) rfl (fun h => ?_) (fun h => ?_)
      · cases h
      refine PW.skip ?_
      have vo := ve m1 s1 a1
      have env : (if m1.fp then (2 : Int) else 1) = ((nvM m : Nat) : Int) := by unfold nvM; rw [hm1.2.2.2.1]; cases m.fp <;> rfl
      have env2 : nvM m1 = nvM m := by unfold nvM; rw [hm1.2.2.2.1]
      rw [env] at vo
      rw [env2] at hres
      (repeat refine PW.seq ?_); refine PW.rg rfl fun K hK => ?_; simp (maxSteps := 3000000) (disch := omega) only [go_sem, ↓reduceIte, reduceCtorEq, pappend, plen, g5, tB_v, tB_c, tC_mi]; refine VCx.call (vo) rfl ?_; simp (maxSteps := 3000000) (disch := omega) only [go_sem, ↓reduceIte, reduceCtorEq, pappend, plen, g5, tB_v, tB_c, tC_mi]; refine hK _ _ ?_; clear hK K
      (repeat refine PW.seq ?_); refine PW.block (PW.loop ?_)
      suffices hl2 : ∀ (k : Nat) (m2 : Mb) (s2 : St) (a2 : Nat), k ≤ nvM m → SameU m m2 → vrS s2 → a2 ≤ n → ((tkVs c p n d (nvM m - k) k m2 s2 a2).bind fun x a1 => tkDs c p n n' (d + 1) x.1 x.2 a1) = res →
          PL Try.prog _ _ [(0, .ptr (H.length + 5) 0 0), (3, .int .i64 (d : Int)), (40, .agg [.bool m.ua, .bool m.ub]), (41, .int .i64 (d : Int)), (51, .int .i64 (nvM m : Int)), (52, .int .i64 (k : Int))] (tG H i p n a2 X (mB m2) (tB s2 i c (H.length + 4) hl)) _ by
        exact PL.at [0, 3, 40, 41, 51, 52] (hl2 0 m1 s1 a1 (by omega) hm1 hs1 ha1 hres) rfl rfl
      clear ih hres hs1 ha1 vo hdr hu hus env env2 hm1
      have hnv := nvM_b m
      intro k m2 s2 a2 hk2 hm2 hs2 ha2 hres
      induction hkk : nvM m - k using Nat.strongRecOn generalizing k m2 s2 a2 with
      | _ kk ih2 =>
        refine PL.round ?_; (repeat refine PW.seq ?_); refine PW.rg rfl fun K hK => ?_; simp (maxSteps := 3000000) (disch := omega) only [go_sem, ↓reduceIte, reduceCtorEq, pappend, plen]; refine hK _ _ ?_; clear hK K
        (repeat refine PW.seq ?_); refine PW.cond (t := _) rfl (fun h => ?_) (fun h => ?_)
        rotate_left
        · have h7 : k = nvM m := by have := of_decide_eq_false h; omega
          subst h7
          refine PW.exit ?_
          simp only [Nat.sub_self, tkVs, Rr.bind_ok] at hres
          (repeat refine PW.seq ?_); refine PW.rg rfl fun K hK => ?_; simp (maxSteps := 3000000) (disch := omega) only [go_sem, ↓reduceIte, reduceCtorEq, pappend, plen]; refine hK _ _ ?_; clear hK K
          exact PL.at [0, 40, 41] (hnx m2 s2 a2 hm2 hs2 ha2 hres rfl) rfl rfl
        have h7 : k < nvM m := by have := of_decide_eq_true h; omega
        obtain ⟨n2, hn2⟩ : ∃ n2, nvM m - k = n2 + 1 := ⟨nvM m - k - 1, by omega⟩
        rw [hn2, tkVs, Rr.bind_bind] at hres
        have hnx2 := fun m1 s1 a1 => ih2 (nvM m - (k + 1)) (by omega) (k + 1) m1 s1 a1 (by omega)
        rw [show nvM m - (k + 1) = n2 by omega] at hnx2
        clear ih2
        have v1 := vc m2 s2 d k a2 h6 (by omega) (by rw [hm2.1]; exact hml) hs2 ha2
        refine PW.skip ?_; (repeat refine PW.seq ?_); refine PW.block ?_
        (repeat refine PW.seq ?_); refine PW.rg rfl fun K hK => ?_; simp (maxSteps := 3000000) (disch := omega) only [go_sem, ↓reduceIte, reduceCtorEq, pappend, plen]; refine hK _ _ ?_; clear hK K
        (repeat refine PW.seq ?_); refine PW.rg rfl fun K hK => ?_; simp (maxSteps := 3000000) (disch := omega) only [go_sem, ↓reduceIte, reduceCtorEq, pappend, plen]
        refine VCx.callR v1 rfl fun v H' hR => ?_
        cases hv : tkVc c p n m2 s2 d k a2 with
        | er e a3 =>
          rw [hv] at hR hres
          obtain ⟨rfl, a4, m4, s4', h1, h2, rfl⟩ := hR
          rw [Rr.bind_er] at hres
          have d0 : ((e : Int) + 1 != 0) = true := by simp; omega
          simp (maxSteps := 3000000) (disch := omega) only [go_sem, ↓reduceIte, reduceCtorEq, pappend, plen, ecd]; refine hK _ _ ?_; clear hK K
          (repeat refine PW.seq ?_); refine PW.rg rfl fun K hK => ?_; simp (maxSteps := 3000000) (disch := omega) only [go_sem, ↓reduceIte, reduceCtorEq, pappend, plen, d0]; refine hK _ _ ?_; clear hK K
          (repeat refine PW.seq ?_); refine PW.cond (t := _) rfl (fun h => ?_) (fun h => ?_)
          rotate_left
          · cases h
          (repeat refine PW.seq ?_); refine PW.rg rfl fun K hK => ?_; simp (maxSteps := 3000000) (disch := omega) only [go_sem, ↓reduceIte, reduceCtorEq, pappend, plen]; refine hK _ _ ?_; clear hK K
          refine PW.ret ⟨_, rfl, .inl ?_⟩
          rw [← hres]
          exact ⟨rfl, a4, m4, s4', h1, h2, rfl⟩
        | ok y a3 =>
          obtain ⟨b1, b2, b3⟩ := tkVc_b hv ha2 hs2
          rw [hv] at hR hres
          obtain ⟨rfl, rfl⟩ := hR
          rw [Rr.bind_ok] at hres
          simp (maxSteps := 3000000) (disch := omega) only [go_sem, ↓reduceIte, reduceCtorEq, pappend, plen]; refine hK _ _ ?_; clear hK K
          (repeat refine PW.seq ?_); refine PW.rg rfl fun K hK => ?_; simp (maxSteps := 3000000) (disch := omega) only [go_sem, ↓reduceIte, reduceCtorEq, pappend, plen]; refine hK _ _ ?_; clear hK K
          (repeat refine PW.seq ?_); refine PW.cond (t := _) rfl (fun h => ?_) (fun h => ?_)
          · cases h
          refine PW.skip ?_
          (repeat refine PW.seq ?_); refine PW.rg rfl fun K hK => ?_; simp (maxSteps := 3000000) (disch := omega) only [go_sem, ↓reduceIte, reduceCtorEq, pappend, plen]; refine hK _ _ ?_; clear hK K
          exact PL.at [0, 3, 40, 41, 51, 52] (hnx2 y.1 y.2 a3 (hm2.trans b2) b3 b1 hres rfl) rfl rfl
end

end Go.Proofs.Ytcabpncdgagihaa.Sc

namespace Go.Proofs.Ytcabpncdgagihaa.Sc
set_option linter.all false
set_option linter.unusedVariables false
set_option linter.unusedSimpArgs false
open Pm Ty Go.RowKit

theorem mbc_sl (m : Mb) (x : Int) : (mbc m).set 17 (.int .i64 x) = mbc { m with dl := x } := rfl
theorem mbc_l (m : Mb) : (mbc m)[17]? = some (.int .i64 m.dl) := rfl
theorem tC_q (s : St) (w : Nat) (c : Cx) (mi : Nat) (hl : Bool) : (tC s w c mi hl)[0]? = some (.int .i64 s.q) := rfl
theorem tC_sq (s : St) (w : Nat) (c : Cx) (mi : Nat) (hl : Bool) (x : Int) : (tC s w c mi hl).set 0 (.int .i64 x) = tC { s with q := x } w c mi hl := rfl
theorem mbc_sc (m : Mb) (n : Nat) (b : Bool) (hn : n < 6) : (mbc m).set (18 + n) (.bool b) = mbc (setCd m n b) := by
  have : n = 0 ∨ n = 1 ∨ n = 2 ∨ n = 3 ∨ n = 4 ∨ n = 5 := by omega
  rcases this with rfl | rfl | rfl | rfl | rfl | rfl <;> rfl
theorem setCd_lv (m : Mb) (n : Nat) (b : Bool) : (setCd m n b).lv = m.lv := by
  unfold setCd
  repeat' split
  all_goals rfl
theorem mbc_6 (m : Mb) : List.take 6 (List.drop 18 (mbc m)) = fs (cdl m) := rfl
theorem eqB6z (a b c d e f : Bool) : peqG Try.prog .eql 45 (.agg [.bool a, .bool b, .bool c, .bool d, .bool e, .bool f]) (.agg [.bool false, .bool false, .bool false, .bool false, .bool false, .bool false]) = some (.bool ((a == false) && ((b == false) && ((c == false) && ((d == false) && ((e == false) && ((f == false) && true))))))) := by kernel_rfl
theorem eqB6m (m : Mb) : peqG Try.prog .eql 45 (.agg (fs (cdl m))) (.agg [.bool false, .bool false, .bool false, .bool false, .bool false, .bool false]) = some (.bool !anyC m) := by
  have := eqB6z m.ca m.cb m.cc m.cd m.ce m.cf
  rw [show fs (cdl m) = [.bool m.ca, .bool m.cb, .bool m.cc, .bool m.cd, .bool m.ce, .bool m.cf] from rfl, this]
  unfold anyC
  cases m.ca <;> cases m.cb <;> cases m.cc <;> cases m.cd <;> cases m.ce <;> cases m.cf <;> rfl

section
variable (H : Heap) (i : Nat) (p : List UInt8) (n : Nat) (X : Heap) (c : Cx) (hl : Bool) (hi : i < H.length) (hX : X.length = 4) (hn : n ≤ 8 * p.length) (hp : p.length ≤ 100000000)
include hi hX hn hp
set_option maxHeartbeats 4000000 in
theorem tchg_ok (m : Mb) (s : St) (a : Nat) (hml : m.lv.length = 384) (hq : 1 ≤ s.q ∧ s.q ≤ 31) (ha : a ≤ n) : CallEx Try.prog 57 [.ptr (H.length + 5) 0 0] (tG H i p n a X (mB m) (tB s i c (H.length + 4) hl)) (prtR H i p n X c hl (tkCh c p n hl m s a)) := by
  have g5 := fun a B4 B5 => tG_5 H i p n a X B4 B5 hX
  have g4 := fun a B4 B5 => tG_4 H i p n a X B4 B5 hX
  have s5 := fun a B4 B5 B => tG_s5 H i p n a X B4 B5 hX B
  have s4 := fun a B4 B5 B => tG_s4 H i p n a X B4 B5 hX B
  have gi := fun a B4 B5 => tG_i H i p n a X B4 B5 hi
  have si := fun a B4 B5 a' => tG_si H i p n a X B4 B5 hi a'
  have hlen := mbc_len m hml
  have bo := fun K => bcx_ok c K
  have qo := fun x K => vq_ok x K
  generalize hres : tkCh c p n hl m s a = res
  unfold tkCh at hres
  refine CallEx.body (F0 := [(0, .ptr (H.length + 5) 0 0)]) Try.func57 rfl Try.ntmps57 Try.results57 rfl (by kernel_rfl) rfl ?_
  (repeat refine PW.seq ?_); refine PW.rg rfl fun K hK => ?_; simp (maxSteps := 3000000) (disch := omega) only [go_sem, ↓reduceIte, reduceCtorEq, pappend, plen]; refine hK _ _ ?_; clear hK K
  cases hhl : hl with
  | false =>
    subst hhl
    rw [if_neg (by decide)] at hres
    (repeat refine PW.seq ?_); refine PW.rg rfl fun K hK => ?_; simp (maxSteps := 3000000) (disch := omega) only [go_sem, ↓reduceIte, reduceCtorEq, pappend, plen, g5, tB_v, tB_c, tC_hl]; refine hK _ _ ?_; clear hK K
    (repeat refine PW.seq ?_); refine PW.cond (t := _) rfl (fun h => ?_) (fun h => ?_)
    rotate_left
    · cases h
    (repeat refine PW.seq ?_); refine PW.rg rfl fun K hK => ?_; simp (maxSteps := 3000000) (disch := omega) only [go_sem, ↓reduceIte, reduceCtorEq, pappend, plen]; refine hK _ _ ?_; clear hK K
    refine PW.ret ⟨_, rfl, .inl ?_⟩
    rw [← hres]
    exact ⟨rfl, rfl⟩
  | true =>
    subst hhl
    rw [if_pos rfl] at hres
    (repeat refine PW.seq ?_); refine PW.rg rfl fun K hK => ?_; simp (maxSteps := 3000000) (disch := omega) only [go_sem, ↓reduceIte, reduceCtorEq, pappend, plen, g5, tB_v, tB_c, tC_hl]; refine hK _ _ ?_; clear hK K
    (repeat refine PW.seq ?_); refine PW.cond (t := _) rfl (fun h => ?_) (fun h => ?_)
    · cases h
    refine PW.skip ?_
    suffices hrest : ∀ (m : Mb) (a : Nat), m.lv.length = 384 → a ≤ n → ((tkS p n a).bind fun d a2 => if vqB (s.q + d) then .ok ({ m with dl := d }, { s with q := s.q + d }) a2 else .er 2 a2) = res → PW Try.prog _ _ [(0, .ptr (H.length + 5) 0 0)] (tG H i p n a X (mB m) (tB s i c (H.length + 4) true)) _ by
      (repeat refine PW.seq ?_); refine PW.rg rfl fun K hK => ?_; simp (maxSteps := 3000000) (disch := omega) only [go_sem, ↓reduceIte, reduceCtorEq, pappend, plen, g5, tB_v, tB_c, tC_c, tC_len, Nat.reduceAdd, Nat.reduceLeDiff]; refine VCx.call (bo _) rfl ?_; simp (maxSteps := 3000000) (disch := omega) only [go_sem, ↓reduceIte, reduceCtorEq, pappend, plen, g5, tB_v, tB_c, tC_c, tC_len, Nat.reduceAdd, Nat.reduceLeDiff]; refine hK _ _ ?_; clear hK K
      cases hbv : bcx c with
      | false =>
        rw [hbv, if_neg (by decide), Rr.bind_ok] at hres
        (repeat refine PW.seq ?_); refine PW.cond (t := _) rfl (fun h => ?_) (fun h => ?_)
        · cases h
        refine PW.skip ?_
        exact PW.at [0] (hrest m a hml ha hres) rfl rfl
      | true =>
        rw [hbv, if_pos rfl] at hres
        (repeat refine PW.seq ?_); refine PW.cond (t := _) rfl (fun h => ?_) (fun h => ?_)
        rotate_left
        · cases h
        (repeat refine PW.seq ?_); refine PW.drawi [i, H.length + 4] [(17, [1]), (18, [0]), (22, [1]), (23, [1])] [] [] mix (by kernel_rfl) (by simp <;> omega) fun K hK => ?_
        simp (maxSteps := 3000000) (disch := omega) only [go_sem, ↓reduceIte, reduceCtorEq, pappend, plen, g5, tB_v, tB_c, tC_mi]
        refine VCj.wr1 (gi a (mB m) (tB s i c (H.length + 4) true)) (fun L hL hG => tflag_gen L (H.length + 5) i p n a c s (H.length + 4) true ((hG.out _ (by simp; omega)).trans (g5 _ _ _)) hL ha hn hp) (by simp (maxSteps := 3000000) (disch := omega) only [go_sem, ↓reduceIte, reduceCtorEq, pappend, plen]) (.inl rfl) rfl ?_
        rw [si]
        cases hf : tkF p n a with
        | ok b a1 =>
          obtain ⟨rfl, h2, _⟩ := tkF_b hf
          rw [hf, Rr.bind_ok, Rr.bind_ok] at hres
          simp only [rvF, Rr.at]
          simp (maxSteps := 3000000) (disch := omega) only [go_sem, ↓reduceIte, reduceCtorEq, pappend, plen, g4, s4, mB_v, mB_c, mB_e, hlen, mbc_sd, mB_of]
          refine hK _ _ ?_; clear hK K
          (repeat refine PW.seq ?_); refine PW.rg rfl fun K hK => ?_; simp (maxSteps := 3000000) (disch := omega) only [go_sem, ↓reduceIte, reduceCtorEq, pappend, plen]; refine hK _ _ ?_; clear hK K
          (repeat refine PW.seq ?_); refine PW.cond (t := _) rfl (fun h => ?_) (fun h => ?_)
          · cases h
          refine PW.skip ?_
          exact PW.at [0] (hrest { m with fd := b } (a + 1) hml (by omega) hres) rfl rfl
        | er e a1 =>
          obtain ⟨rfl, rfl, h2⟩ := tkF_e hf
          rw [hf, Rr.bind_er, Rr.bind_er] at hres
          simp only [rvF, Rr.at]
          simp (maxSteps := 3000000) (disch := omega) only [go_sem, ↓reduceIte, reduceCtorEq, pappend, plen, g4, s4, mB_v, mB_c, mB_e, hlen, mbc_sd, mB_of]
          refine hK _ _ ?_; clear hK K
          (repeat refine PW.seq ?_); refine PW.rg rfl fun K hK => ?_; simp (maxSteps := 3000000) (disch := omega) only [go_sem, ↓reduceIte, reduceCtorEq, pappend, plen]; refine hK _ _ ?_; clear hK K
          (repeat refine PW.seq ?_); refine PW.cond (t := _) rfl (fun h => ?_) (fun h => ?_)
          rotate_left
          · cases h
          (repeat refine PW.seq ?_); refine PW.rg rfl fun K hK => ?_; simp (maxSteps := 3000000) (disch := omega) only [go_sem, ↓reduceIte, reduceCtorEq, pappend, plen]; refine hK _ _ ?_; clear hK K
          refine PW.ret ⟨_, rfl, .inl ?_⟩
          rw [← hres]
          exact ⟨rfl, a1, { m with fd := false }, s, ha, hml, rfl⟩
    clear hres ha hml hlen
    intro m a hml ha hres
    have hlen := mbc_len m hml
    (repeat refine PW.seq ?_); refine PW.drawi [i, H.length + 4] [(31, [1]), (35, [0]), (39, [1]), (40, [1])] [] [] mix (by kernel_rfl) (by simp <;> omega) fun K hK => ?_
    simp (maxSteps := 3000000) (disch := omega) only [go_sem, ↓reduceIte, reduceCtorEq, pappend, plen, g5, tB_v, tB_c, tC_mi, tC_w]
    refine VCj.wr1 (gi a (mB m) (tB s i c (H.length + 4) true)) (fun L hL hG => tks_ok i p n a L hL ha hn hp) (by simp (maxSteps := 3000000) (disch := omega) only [go_sem, ↓reduceIte, reduceCtorEq, pappend, plen]) (.inl rfl) rfl ?_
    rw [si]
    cases h1 : tkS p n a with
    | er e a1 =>
      have he := tkS_e h1
      rw [h1, Rr.bind_er] at hres
      simp only [rvS, Rr.at]
      have d0 : ((e : Int) + 1 != 0) = true := by simp; omega
      simp (maxSteps := 3000000) (disch := omega) only [go_sem, ↓reduceIte, reduceCtorEq, pappend, plen, g4, s4, mB_v, mB_c, mB_e, hlen, mbc_sl, mB_of]
      refine hK _ _ ?_; clear hK K
      (repeat refine PW.seq ?_); refine PW.rg rfl fun K hK => ?_; simp (maxSteps := 3000000) (disch := omega) only [go_sem, ↓reduceIte, reduceCtorEq, pappend, plen, d0]; refine hK _ _ ?_; clear hK K
      (repeat refine PW.seq ?_); refine PW.cond (t := _) rfl (fun h => ?_) (fun h => ?_)
      rotate_left
      · cases h
      (repeat refine PW.seq ?_); refine PW.rg rfl fun K hK => ?_; simp (maxSteps := 3000000) (disch := omega) only [go_sem, ↓reduceIte, reduceCtorEq, pappend, plen]; refine hK _ _ ?_; clear hK K
      refine PW.ret ⟨_, rfl, .inl ?_⟩
      rw [← hres]
      exact ⟨rfl, a1, { m with dl := 0 }, s, by omega, hml, rfl⟩
    | ok d a1 =>
      have hb := tkS_b h1 ha
      rw [h1, Rr.bind_ok] at hres
      simp only [rvS, Rr.at]
      simp (maxSteps := 3000000) (disch := omega) only [go_sem, ↓reduceIte, reduceCtorEq, pappend, plen, g4, s4, mB_v, mB_c, mB_e, hlen, mbc_sl, mB_of]
      refine hK _ _ ?_; clear hK K
      (repeat refine PW.seq ?_); refine PW.rg rfl fun K hK => ?_; simp (maxSteps := 3000000) (disch := omega) only [go_sem, ↓reduceIte, reduceCtorEq, pappend, plen]; refine hK _ _ ?_; clear hK K
      (repeat refine PW.seq ?_); refine PW.cond (t := _) rfl (fun h => ?_) (fun h => ?_)
      · cases h
      refine PW.skip ?_
      (repeat refine PW.seq ?_); refine PW.drawt [] [] mix (by kernel_rfl) fun K hK => ?_; simp (maxSteps := 3000000) (disch := omega) only [go_sem, ↓reduceIte, reduceCtorEq, pappend, plen, g5, g4, s5, tB_v, tB_c, tB_e, tC_mi, tC_q, tC_sq, tC_len, tB_of, mB_v, mB_c, mbc_l]; refine hK _ _ ?_; clear hK K
      have qo1 := fun K => qo (s.q + d) K
      cases hv : vqB (s.q + d) with
      | false =>
        rw [hv] at qo1 hres
        rw [if_neg (by decide)] at hres
        (repeat refine PW.seq ?_); refine PW.rg rfl fun K hK => ?_; simp (maxSteps := 3000000) (disch := omega) only [go_sem, ↓reduceIte, reduceCtorEq, pappend, plen, g5, tB_v, tB_c, tC_q]
        refine VCx.call (qo1 _) rfl ?_; simp (maxSteps := 3000000) (disch := omega) only [go_sem, ↓reduceIte, reduceCtorEq, pappend, plen]; refine hK _ _ ?_; clear hK K
        (repeat refine PW.seq ?_); refine PW.cond (t := _) rfl (fun h => ?_) (fun h => ?_)
        rotate_left
        · cases h
        (repeat refine PW.seq ?_); refine PW.rg rfl fun K hK => ?_; simp (maxSteps := 3000000) (disch := omega) only [go_sem, ↓reduceIte, reduceCtorEq, pappend, plen]; refine hK _ _ ?_; clear hK K
        refine PW.ret ⟨_, rfl, .inl ?_⟩
        rw [← hres]
        exact ⟨rfl, a1, { m with dl := d }, { s with q := s.q + d }, hb.2.2, hml, rfl⟩
      | true =>
        rw [hv] at qo1 hres
        rw [if_pos rfl] at hres
        (repeat refine PW.seq ?_); refine PW.rg rfl fun K hK => ?_; simp (maxSteps := 3000000) (disch := omega) only [go_sem, ↓reduceIte, reduceCtorEq, pappend, plen, g5, tB_v, tB_c, tC_q]
        refine VCx.call (qo1 _) rfl ?_; simp (maxSteps := 3000000) (disch := omega) only [go_sem, ↓reduceIte, reduceCtorEq, pappend, plen]; refine hK _ _ ?_; clear hK K
        (repeat refine PW.seq ?_); refine PW.cond (t := _) rfl (fun h => ?_) (fun h => ?_)
        · cases h
        refine PW.skip ?_
        (repeat refine PW.seq ?_); refine PW.rg rfl fun K hK => ?_; simp (maxSteps := 3000000) (disch := omega) only [go_sem, ↓reduceIte, reduceCtorEq, pappend, plen]; refine hK _ _ ?_; clear hK K
        refine PW.ret ⟨_, rfl, .inl ?_⟩
        rw [← hres]
        exact ⟨rfl, rfl⟩

set_option maxHeartbeats 4000000 in
theorem tcod_ok (m : Mb) (s : St) (a : Nat) (hml : m.lv.length = 384) (ha : a ≤ n) : CallEx Try.prog 58 [.ptr (H.length + 5) 0 0] (tG H i p n a X (mB m) (tB s i c (H.length + 4) hl)) (prtR H i p n X c hl ((tkCo p n hl m a).bind fun m a => .ok (m, s) a)) := by
  have g5 := fun a B4 B5 => tG_5 H i p n a X B4 B5 hX
  have g4 := fun a B4 B5 => tG_4 H i p n a X B4 B5 hX
  have s5 := fun a B4 B5 B => tG_s5 H i p n a X B4 B5 hX B
  have s4 := fun a B4 B5 B => tG_s4 H i p n a X B4 B5 hX B
  have gi := fun a B4 B5 => tG_i H i p n a X B4 B5 hi
  have si := fun a B4 B5 a' => tG_si H i p n a X B4 B5 hi a'
  have hlen := fun (m : Mb) (h : m.lv.length = 384) => mbc_len m h
  generalize hres : (tkCo p n hl m a).bind (fun m a => Rr.ok (m, s) a) = res
  unfold tkCo at hres
  refine CallEx.body (F0 := [(0, .ptr (H.length + 5) 0 0)]) Try.func58 rfl Try.ntmps58 Try.results58 rfl (by kernel_rfl) rfl ?_
  (repeat refine PW.seq ?_); refine PW.rg rfl fun K hK => ?_; simp (maxSteps := 3000000) (disch := omega) only [go_sem, ↓reduceIte, reduceCtorEq, pappend, plen]; refine hK _ _ ?_; clear hK K
  by_cases hk : m.k = 2
  rotate_left
  · have d2 : (m.k != 2) = true := by simp [hk]
    rw [decide_eq_false hk, Bool.false_and, if_neg (by decide), Rr.bind_ok] at hres
    (repeat refine PW.seq ?_); refine PW.rg rfl fun K hK => ?_; simp (maxSteps := 3000000) (disch := omega) only [go_sem, ↓reduceIte, reduceCtorEq, pappend, plen, g5, g4, tB_v, tB_c, tC_mi, tC_hl, mB_v, mB_c, mbc_k, d2]; refine hK _ _ ?_; clear hK K
    (repeat refine PW.seq ?_); refine PW.cond (t := _) rfl (fun h => ?_) (fun h => ?_)
    rotate_left
    · cases h
    (repeat refine PW.seq ?_); refine PW.rg rfl fun K hK => ?_; simp (maxSteps := 3000000) (disch := omega) only [go_sem, ↓reduceIte, reduceCtorEq, pappend, plen]; refine hK _ _ ?_; clear hK K
    refine PW.ret ⟨_, rfl, .inl ?_⟩
    rw [← hres]
    exact ⟨rfl, rfl⟩
  have d2 : (m.k != 2) = false := by simp [hk]
  rw [decide_eq_true hk, Bool.true_and] at hres
  cases hhl : hl with
  | false =>
    subst hhl
    rw [if_neg (by decide), Rr.bind_ok] at hres
    (repeat refine PW.seq ?_); refine PW.rg rfl fun K hK => ?_; simp (maxSteps := 3000000) (disch := omega) only [go_sem, ↓reduceIte, reduceCtorEq, pappend, plen, g5, g4, tB_v, tB_c, tC_mi, tC_hl, mB_v, mB_c, mbc_k, d2]; refine hK _ _ ?_; clear hK K
    (repeat refine PW.seq ?_); refine PW.cond (t := _) rfl (fun h => ?_) (fun h => ?_)
    rotate_left
    · cases h
    (repeat refine PW.seq ?_); refine PW.rg rfl fun K hK => ?_; simp (maxSteps := 3000000) (disch := omega) only [go_sem, ↓reduceIte, reduceCtorEq, pappend, plen]; refine hK _ _ ?_; clear hK K
    refine PW.ret ⟨_, rfl, .inl ?_⟩
    rw [← hres]
    exact ⟨rfl, rfl⟩
  | true =>
    subst hhl
    rw [if_pos rfl] at hres
    (repeat refine PW.seq ?_); refine PW.rg rfl fun K hK => ?_; simp (maxSteps := 3000000) (disch := omega) only [go_sem, ↓reduceIte, reduceCtorEq, pappend, plen, g5, g4, tB_v, tB_c, tC_mi, tC_hl, mB_v, mB_c, mbc_k, d2]; refine hK _ _ ?_; clear hK K
    (repeat refine PW.seq ?_); refine PW.cond (t := _) rfl (fun h => ?_) (fun h => ?_)
    · cases h
    refine PW.skip ?_
    (repeat refine PW.seq ?_); refine PW.rg rfl fun K hK => ?_; simp (maxSteps := 3000000) (disch := omega) only [go_sem, ↓reduceIte, reduceCtorEq, pappend, plen]; refine hK _ _ ?_; clear hK K
    (repeat refine PW.seq ?_); refine PW.block (PW.loop ?_)
    suffices hl1 : ∀ (k : Nat) (m1 : Mb) (a1 : Nat), k ≤ 6 → m1.lv.length = 384 → a1 ≤ n → ((tkCf p n (6 - k) m1 a1).bind fun m a => Rr.ok (m, s) a) = res → PL Try.prog _ _ [(0, .ptr (H.length + 5) 0 0), (19, .int .i64 (k : Int))] (tG H i p n a1 X (mB m1) (tB s i c (H.length + 4) true)) _ by
      exact PL.at [0, 19] (hl1 0 m a (by omega) hml ha hres) rfl rfl
    clear hres hk d2 hml ha
    intro k m1 a1 hk6 hml ha hres
    induction hd : 6 - k using Nat.strongRecOn generalizing k m1 a1 with
    | _ d ih =>
      refine PL.round ?_; (repeat refine PW.seq ?_); refine PW.rg rfl fun K hK => ?_; simp (maxSteps := 3000000) (disch := omega) only [go_sem, ↓reduceIte, reduceCtorEq, pappend, plen]; refine hK _ _ ?_; clear hK K
      (repeat refine PW.seq ?_); refine PW.cond (t := _) rfl (fun h => ?_) (fun h => ?_)
      rotate_left
      · have h6 : k = 6 := by have := of_decide_eq_false h; omega
        subst h6
        refine PW.exit ?_
        have hlm := hlen m1 hml
        have e6 := eqB6m m1
        simp only [Nat.sub_self, tkCf] at hres
        cases hac : anyC m1 with
        | true =>
          rw [hac, if_pos rfl, Rr.bind_ok] at hres
          rw [hac] at e6
          (repeat refine PW.seq ?_); refine PW.rg rfl fun K hK => ?_; simp (maxSteps := 3000000) (disch := omega) only [go_sem, ↓reduceIte, reduceCtorEq, pappend, plen, g5, g4, tB_v, tB_c, tC_mi, mB_v, mB_c, mbc_6, hlm, ↓e6, Nat.reduceAdd, Nat.reduceLeDiff]; refine hK _ _ ?_; clear hK K
          (repeat refine PW.seq ?_); refine PW.cond (t := _) rfl (fun h => ?_) (fun h => ?_)
          · cases h
          refine PW.skip ?_
          (repeat refine PW.seq ?_); refine PW.rg rfl fun K hK => ?_; simp (maxSteps := 3000000) (disch := omega) only [go_sem, ↓reduceIte, reduceCtorEq, pappend, plen]; refine hK _ _ ?_; clear hK K
          refine PW.ret ⟨_, rfl, .inl ?_⟩
          rw [← hres]
          exact ⟨rfl, rfl⟩
        | false =>
          rw [hac, if_neg (by decide), Rr.bind_er] at hres
          rw [hac] at e6
          (repeat refine PW.seq ?_); refine PW.rg rfl fun K hK => ?_; simp (maxSteps := 3000000) (disch := omega) only [go_sem, ↓reduceIte, reduceCtorEq, pappend, plen, g5, g4, tB_v, tB_c, tC_mi, mB_v, mB_c, mbc_6, hlm, ↓e6, Nat.reduceAdd, Nat.reduceLeDiff]; refine hK _ _ ?_; clear hK K
          (repeat refine PW.seq ?_); refine PW.cond (t := _) rfl (fun h => ?_) (fun h => ?_)
          rotate_left
          · cases h
          (repeat refine PW.seq ?_); refine PW.rg rfl fun K hK => ?_; simp (maxSteps := 3000000) (disch := omega) only [go_sem, ↓reduceIte, reduceCtorEq, pappend, plen]; refine hK _ _ ?_; clear hK K
          refine PW.ret ⟨_, rfl, .inl ?_⟩
          rw [← hres]
          exact ⟨rfl, a1, m1, s, ha, hml, rfl⟩
      have h6 : k < 6 := by have := of_decide_eq_true h; omega
      obtain ⟨n', hn'⟩ : ∃ n', 6 - k = n' + 1 := ⟨5 - k, by omega⟩
      have hkn : 5 - n' = k := by omega
      rw [hn', tkCf, hkn, Rr.bind_bind] at hres
      have hnx := fun m1 a1 => ih (6 - (k + 1)) (by omega) (k + 1) m1 a1 (by omega)
      rw [show 6 - (k + 1) = n' by omega] at hnx
      have hlm := hlen m1 hml
      have hst := fun b => mbc_sc m1 k b h6
      refine PW.skip ?_; (repeat refine PW.seq ?_); refine PW.block ?_
      (repeat refine PW.seq ?_); refine PW.rg rfl fun K hK => ?_; simp (maxSteps := 3000000) (disch := omega) only [go_sem, ↓reduceIte, reduceCtorEq, pappend, plen]; refine hK _ _ ?_; clear hK K
      (repeat refine PW.seq ?_); refine PW.drawi [i, H.length + 4] [(26, [1]), (28, [0]), (32, [1]), (33, [1]), (34, [1])] [] [] mix (by kernel_rfl) (by simp <;> omega) fun K hK => ?_
      simp (maxSteps := 3000000) (disch := omega) only [go_sem, ↓reduceIte, reduceCtorEq, pappend, plen, g5, tB_v, tB_c, tC_mi]
      refine VCj.wr1 (gi a1 (mB m1) (tB s i c (H.length + 4) true)) (fun L hL hG => tflag_gen L (H.length + 5) i p n a1 c s (H.length + 4) true ((hG.out _ (by simp; omega)).trans (g5 _ _ _)) hL ha hn hp) (by simp (maxSteps := 3000000) (disch := omega) only [go_sem, ↓reduceIte, reduceCtorEq, pappend, plen]) (.inl rfl) rfl ?_
      rw [si]
      cases hf : tkF p n a1 with
      | ok b a2 =>
        obtain ⟨rfl, h2, _⟩ := tkF_b hf
        rw [hf, Rr.bind_ok] at hres
        simp only [rvF, Rr.at]
        simp (maxSteps := 3000000) (disch := omega) only [go_sem, ↓reduceIte, reduceCtorEq, pappend, plen, g4, s4, mB_v, mB_c, mB_e, hlm, hst, mB_of]
        refine hK _ _ ?_; clear hK K
        (repeat refine PW.seq ?_); refine PW.rg rfl fun K hK => ?_; simp (maxSteps := 3000000) (disch := omega) only [go_sem, ↓reduceIte, reduceCtorEq, pappend, plen]; refine hK _ _ ?_; clear hK K
        (repeat refine PW.seq ?_); refine PW.cond (t := _) rfl (fun h => ?_) (fun h => ?_)
        · cases h
        refine PW.skip ?_
        (repeat refine PW.seq ?_); refine PW.rg rfl fun K hK => ?_; simp (maxSteps := 3000000) (disch := omega) only [go_sem, ↓reduceIte, reduceCtorEq, pappend, plen]; refine hK _ _ ?_; clear hK K
        exact PL.at [0, 19] (hnx (setCd m1 k b) (a1 + 1) (by rw [setCd_lv]; exact hml) (by omega) hres rfl) rfl rfl
      | er e a2 =>
        obtain ⟨rfl, rfl, h2⟩ := tkF_e hf
        rw [hf, Rr.bind_er] at hres
        simp only [rvF, Rr.at]
        simp (maxSteps := 3000000) (disch := omega) only [go_sem, ↓reduceIte, reduceCtorEq, pappend, plen, g4, s4, mB_v, mB_c, mB_e, hlm, hst, mB_of]
        refine hK _ _ ?_; clear hK K
        (repeat refine PW.seq ?_); refine PW.rg rfl fun K hK => ?_; simp (maxSteps := 3000000) (disch := omega) only [go_sem, ↓reduceIte, reduceCtorEq, pappend, plen]; refine hK _ _ ?_; clear hK K
        (repeat refine PW.seq ?_); refine PW.cond (t := _) rfl (fun h => ?_) (fun h => ?_)
        rotate_left
        · cases h
        (repeat refine PW.seq ?_); refine PW.rg rfl fun K hK => ?_; simp (maxSteps := 3000000) (disch := omega) only [go_sem, ↓reduceIte, reduceCtorEq, pappend, plen]; refine hK _ _ ?_; clear hK K
        refine PW.ret ⟨_, rfl, .inl ?_⟩
        rw [← hres]
        exact ⟨rfl, a2, setCd m1 k false, s, ha, by rw [setCd_lv]; exact hml, rfl⟩
end

end Go.Proofs.Ytcabpncdgagihaa.Sc

namespace Go.Proofs.Ytcabpncdgagihaa.Sc
set_option linter.all false
set_option linter.unusedVariables false
set_option linter.unusedSimpArgs false
open Pm Ty Go.RowKit

def hdM (m : Mb) : List PV := [.int .i64 m.k, .bool m.ua, .bool m.ub, .bool m.fp, .bool m.fd, .int .i64 m.va, .int .i64 m.vb, .int .i64 m.vc, .int .i64 m.vd, .int .i64 m.ve, .int .i64 m.vf, .int .i64 m.vg, .int .i64 m.vh, .int .i64 m.sa, .int .i64 m.sb, .int .i64 m.sc, .int .i64 m.sd, .int .i64 m.dl, .bool m.ca, .bool m.cb, .bool m.cc, .bool m.cd, .bool m.ce, .bool m.cf]
theorem mbc_app (m : Mb) : mbc m = hdM m ++ is m.lv := rfl
theorem hdM_len (m : Mb) : (hdM m).length = 24 := rfl
theorem mbc_tk (m : Mb) (x : Nat) : List.take (24 + x) (mbc m) = hdM m ++ is (m.lv.take x) := by
  rw [mbc_app, List.take_append, hdM_len, List.take_of_length_le (by rw [hdM_len]; omega), show 24 + x - 24 = x by omega, is_take]
theorem mbc_dp (m : Mb) (x : Nat) : List.drop (24 + x) (mbc m) = is (m.lv.drop x) := by
  rw [mbc_app, List.drop_append, hdM_len, List.drop_of_length_le (by rw [hdM_len]; omega), show 24 + x - 24 = x by omega, is_drop]; rfl
theorem setLv_len (m : Mb) (k : Nat) (l : List Int) (hk : k < 6) (hl : l.length = 64) (hm : m.lv.length = 384) : (setLv m k l).lv.length = 384 := by
  simp only [setLv, List.length_append, List.length_take, List.length_drop, hl, hm]; omega
theorem mbc_sL (m : Mb) (k : Nat) (l : List Int) : List.take (24 + k * 64) (mbc m) ++ (is l ++ List.drop (24 + k * 64 + 64) (mbc m)) = mbc (setLv m k l) := by
  rw [mbc_tk, show 24 + k * 64 + 64 = 24 + (k * 64 + 64) by omega, mbc_dp, mbc_app]
  show _ = hdM m ++ is (m.lv.take (k * 64) ++ l ++ m.lv.drop (k * 64 + 64))
  rw [is_append, is_append, List.append_assoc, List.append_assoc]
theorem mbc_gL (m : Mb) (k : Nat) (l : List Int) (hk : k < 6) (hl : l.length = 64) (hm : m.lv.length = 384) : List.take 64 (List.drop (24 + k * 64) (mbc (setLv m k l))) = is l := by
  rw [mbc_dp, is_take]
  congr 1
  have h1 : (m.lv.take (k * 64)).length = k * 64 := by rw [List.length_take]; omega
  simp only [setLv]
  rw [List.append_assoc, List.drop_left' h1, List.take_left' hl]
theorem mbc_s0 (m : Mb) (k : Nat) (l : List Int) (d : Int) (hk : k < 6) (hl : l.length = 64) (hm : m.lv.length = 384) : (mbc (setLv m k l)).set (24 + k * 64) (.int .i64 d) = mbc (setLv m k (l.set 0 d)) := by
  have h1 : (m.lv.take (k * 64)).length = k * 64 := by rw [List.length_take]; omega
  rw [mbc_app, mbc_app, List.set_append_right _ _ (by rw [hdM_len]; omega), hdM_len, show 24 + k * 64 - 24 = k * 64 by omega, is_set]
  show hdM m ++ _ = hdM m ++ _
  congr 2
  simp only [setLv]
  rw [List.append_assoc, List.set_append_right _ _ (by omega), h1, Nat.sub_self, List.set_append_left _ _ (by omega), ← List.append_assoc]
theorem tC_d (s : St) (w : Nat) (c : Cx) (mi : Nat) (hl : Bool) (q : Nat) (h : q < 3) : (tC s w c mi hl)[1 + q]? = some (.int .i64 (dcS s q)) := by
  have : q = 0 ∨ q = 1 ∨ q = 2 := by omega
  rcases this with rfl | rfl | rfl <;> rfl
theorem tC_sd (s : St) (w : Nat) (c : Cx) (mi : Nat) (hl : Bool) (q : Nat) (h : q < 3) (x : Int) : (tC s w c mi hl).set (1 + q) (.int .i64 x) = tC (setD s q x) w c mi hl := by
  have : q = 0 ∨ q = 1 ∨ q = 2 := by omega
  rcases this with rfl | rfl | rfl <;> rfl
theorem dcS_set (s : St) (q : Nat) (x : Int) (h : q < 3) : dcS (setD s q x) q = x := by
  have : q = 0 ∨ q = 1 ∨ q = 2 := by omega
  rcases this with rfl | rfl | rfl <;> rfl
theorem pqZ64 (l : List Int) (h : l.length = 64) : peqI (.int .i64) (is l) [.int .i64 0, .int .i64 0, .int .i64 0, .int .i64 0, .int .i64 0, .int .i64 0, .int .i64 0, .int .i64 0, .int .i64 0, .int .i64 0, .int .i64 0, .int .i64 0, .int .i64 0, .int .i64 0, .int .i64 0, .int .i64 0, .int .i64 0, .int .i64 0, .int .i64 0, .int .i64 0, .int .i64 0, .int .i64 0, .int .i64 0, .int .i64 0, .int .i64 0, .int .i64 0, .int .i64 0, .int .i64 0, .int .i64 0, .int .i64 0, .int .i64 0, .int .i64 0, .int .i64 0, .int .i64 0, .int .i64 0, .int .i64 0, .int .i64 0, .int .i64 0, .int .i64 0, .int .i64 0, .int .i64 0, .int .i64 0, .int .i64 0, .int .i64 0, .int .i64 0, .int .i64 0, .int .i64 0, .int .i64 0, .int .i64 0, .int .i64 0, .int .i64 0, .int .i64 0, .int .i64 0, .int .i64 0, .int .i64 0, .int .i64 0, .int .i64 0, .int .i64 0, .int .i64 0, .int .i64 0, .int .i64 0, .int .i64 0, .int .i64 0, .int .i64 0] = some (decide (l = z64)) := by
  have hp := peqI_is .i64 l z64 (by simp [z64, h])
  have dz : (l == z64) = decide (l = z64) := by rw [Bool.eq_iff_iff]; simp
  rw [dz] at hp
  exact hp

section
variable (H : Heap) (i : Nat) (p : List UInt8) (n : Nat) (X : Heap) (c : Cx) (hl : Bool) (hi : i < H.length) (hX : X.length = 4) (hn : n ≤ 8 * p.length) (hp : p.length ≤ 100000000)
include hi hX hn hp
set_option maxHeartbeats 4000000 in
theorem tlev_ok (m : Mb) (s : St) (a : Nat) (hml : m.lv.length = 384) (hs : dcR s) (ha : a ≤ n) : CallEx Try.prog 59 [.ptr (H.length + 5) 0 0] (tG H i p n a X (mB m) (tB s i c (H.length + 4) hl)) (prtR H i p n X c hl (tkLv p n 6 m s a)) := by
  have g5 := fun a B4 B5 => tG_5 H i p n a X B4 B5 hX
  have g4 := fun a B4 B5 => tG_4 H i p n a X B4 B5 hX
  have s5 := fun a B4 B5 B => tG_s5 H i p n a X B4 B5 hX B
  have s4 := fun a B4 B5 B => tG_s4 H i p n a X B4 B5 hX B
  have gi := fun a B4 B5 => tG_i H i p n a X B4 B5 hi
  have si := fun a B4 B5 a' => tG_si H i p n a X B4 B5 hi a'
  have hlen := fun (m : Mb) (h : m.lv.length = 384) => mbc_len m h
  have hfg := fun k (hk : k < 6) => fs_get (cdl m) k hk
  have hcl : (fs (cdl m)).length = 6 := rfl
  have co := fun k hk K => cmp_ok k K hk
  have hzl : z64.length = 64 := by simp [z64]
  generalize hres : tkLv p n 6 m s a = res
  have hlm := hlen m hml
  refine CallEx.body (F0 := [(0, .ptr (H.length + 5) 0 0)]) Try.func59 rfl Try.ntmps59 Try.results59 rfl (by kernel_rfl) rfl ?_
  (repeat refine PW.seq ?_); refine PW.rg rfl fun K hK => ?_; simp (maxSteps := 3000000) (disch := omega) only [go_sem, ↓reduceIte, reduceCtorEq, pappend, plen]; refine hK _ _ ?_; clear hK K
  (repeat refine PW.seq ?_); refine PW.rg rfl fun K hK => ?_; simp (maxSteps := 3000000) (disch := omega) only [go_sem, ↓reduceIte, reduceCtorEq, pappend, plen, g5, g4, tB_v, tB_c, tC_mi, mB_v, mB_c, mbc_6, hlm, Nat.reduceAdd, Nat.reduceLeDiff]; refine hK _ _ ?_; clear hK K
  (repeat refine PW.seq ?_); refine PW.block (PW.loop ?_)
  suffices hl1 : ∀ (k : Nat) (m1 : Mb) (s1 : St) (a1 : Nat), k ≤ 6 → m1.lv.length = 384 → cdl m1 = cdl m → dcR s1 → a1 ≤ n → tkLv p n (6 - k) m1 s1 a1 = res → PL Try.prog _ _ [(0, .ptr (H.length + 5) 0 0), (13, .agg (fs (cdl m))), (14, .int .i64 (k : Int))] (tG H i p n a1 X (mB m1) (tB s1 i c (H.length + 4) hl)) _ by
    exact PL.at [0, 13, 14] (hl1 0 m s a (by omega) hml rfl hs ha hres) rfl rfl
  clear hres hml ha hs hlm
  intro k m1 s1 a1 hk6 hml hcd hs ha hres
  induction hd : 6 - k using Nat.strongRecOn generalizing k m1 s1 a1 with
  | _ d ih =>
    refine PL.round ?_; (repeat refine PW.seq ?_); refine PW.rg rfl fun K hK => ?_; simp (maxSteps := 3000000) (disch := omega) only [go_sem, ↓reduceIte, reduceCtorEq, pappend, plen]; refine hK _ _ ?_; clear hK K
    (repeat refine PW.seq ?_); refine PW.cond (t := _) rfl (fun h => ?_) (fun h => ?_)
    rotate_left
    · have h6 : k = 6 := by have := of_decide_eq_false h; omega
      subst h6
      refine PW.exit ?_
      simp only [Nat.sub_self, tkLv] at hres
      (repeat refine PW.seq ?_); refine PW.rg rfl fun K hK => ?_; simp (maxSteps := 3000000) (disch := omega) only [go_sem, ↓reduceIte, reduceCtorEq, pappend, plen]; refine hK _ _ ?_; clear hK K
      refine PW.ret ⟨_, rfl, .inl ?_⟩
      rw [← hres]
      exact ⟨rfl, rfl⟩
    have h6 : k < 6 := by have := of_decide_eq_true h; omega
    obtain ⟨n', hn'⟩ : ∃ n', 6 - k = n' + 1 := ⟨5 - k, by omega⟩
    have hkn : 5 - n' = k := by omega
    rw [hn', tkLv, hkn, hcd] at hres
    have hnx := fun m1 s1 a1 => ih (6 - (k + 1)) (by omega) (k + 1) m1 s1 a1 (by omega)
    rw [show 6 - (k + 1) = n' by omega] at hnx
    have hlm := hlen m1 hml
    have hgx := hfg k h6
    refine PW.skip ?_; (repeat refine PW.seq ?_); refine PW.block ?_
    (repeat refine PW.seq ?_); refine PW.rg rfl fun K hK => ?_; simp (maxSteps := 3000000) (disch := omega) only [go_sem, ↓reduceIte, reduceCtorEq, pappend, plen, hgx, hcl]; refine hK _ _ ?_; clear hK K
    generalize flagAt (cdl m) k = fg at *
    (repeat refine PW.seq ?_); refine PW.rg rfl fun K hK => ?_; simp (maxSteps := 3000000) (disch := omega) only [go_sem, ↓reduceIte, reduceCtorEq, pappend, plen]; refine hK _ _ ?_; clear hK K
    cases fg with
    | false =>
      rw [if_neg (by decide)] at hres
      (repeat refine PW.seq ?_); refine PW.cond (t := _) rfl (fun h => ?_) (fun h => ?_)
      rotate_left
      · cases h
      refine PW.exit ?_
      (repeat refine PW.seq ?_); refine PW.rg rfl fun K hK => ?_; simp (maxSteps := 3000000) (disch := omega) only [go_sem, ↓reduceIte, reduceCtorEq, pappend, plen]; refine hK _ _ ?_; clear hK K
      exact PL.at [0, 13, 14] (hnx m1 s1 a1 hml hcd hs ha hres rfl) rfl rfl
    | true =>
      rw [if_pos rfl] at hres
      (repeat refine PW.seq ?_); refine PW.cond (t := _) rfl (fun h => ?_) (fun h => ?_)
      · cases h
      refine PW.skip ?_
      (repeat refine PW.seq ?_); refine PW.rg rfl fun K hK => ?_; simp (maxSteps := 3000000) (disch := omega) only [go_sem, ↓reduceIte, reduceCtorEq, pappend, plen, g5, g4, tB_v, tB_c, tC_mi, mB_v]; refine hK _ _ ?_; clear hK K
      (repeat refine PW.seq ?_); refine PW.rg rfl fun K hK => ?_; simp (maxSteps := 3000000) (disch := omega) only [go_sem, ↓reduceIte, reduceCtorEq, pappend, plen, g5, g4, tB_v, tB_c, tC_mi, mB_v, mB_c, mbc_k]; refine hK _ _ ?_; clear hK K
      have hsL := fun m l => mbc_sL m k l
      have hq3 : k - 3 < 3 := by omega
      by_cases hk : m1.k = 2
      · rw [if_pos hk] at hres
        have d1 : (m1.k == 2) = true := by simp [hk]
        have bt := btake_ok i p n a1 0 _ (gi a1 (mB m1) (tB s1 i c (H.length + 4) hl)) ha hn hp (by omega)
        rw [si] at bt
        rw [d1]
        (repeat refine PW.seq ?_); refine PW.cond (t := _) rfl (fun h => ?_) (fun h => ?_)
        rotate_left
        · cases h
        cases hb : tkBl p n 0 a1 with
        | er e a2 =>
          have hbe := tkB_e _ _ _ _ hb ha
          rw [hb] at bt hres
          simp only [rvB, Rr.at] at bt
          rw [Rr.bind_er] at hres
          have hil : (is z64).length = 64 := by rw [is_len, hzl]
          have hic := is_cell z64
          have d0 : ((e : Int) + 1 != 0) = true := by simp; omega
          have d9 := setLv_len m1 k z64 h6 hzl hml
          generalize hZ : is z64 = Z at *
          (repeat refine PW.seq ?_); refine PW.rg rfl fun K hK => ?_; simp (maxSteps := 3000000) (disch := omega) only [go_sem, ↓reduceIte, reduceCtorEq, pappend, plen, g5, g4, s4, tB_v, tB_c, tC_w, mB_v, mB_c, mB_e, hlm, hil, hic]; refine VCx.call (bt) rfl ?_; simp (maxSteps := 3000000) (disch := omega) only [go_sem, ↓reduceIte, reduceCtorEq, pappend, plen, g5, g4, s4, tB_v, tB_c, tC_w, mB_v, mB_c, mB_e, hlm, hil, hic]; refine hK _ _ ?_; clear hK K
          rw [← hZ]
          simp only [hsL, mB_of]
          (repeat refine PW.seq ?_); refine PW.rg rfl fun K hK => ?_; simp (maxSteps := 3000000) (disch := omega) only [go_sem, ↓reduceIte, reduceCtorEq, pappend, plen, d0]; refine hK _ _ ?_; clear hK K
          (repeat refine PW.seq ?_); refine PW.cond (t := _) rfl (fun h => ?_) (fun h => ?_)
          rotate_left
          · cases h
          (repeat refine PW.seq ?_); refine PW.rg rfl fun K hK => ?_; simp (maxSteps := 3000000) (disch := omega) only [go_sem, ↓reduceIte, reduceCtorEq, pappend, plen]; refine hK _ _ ?_; clear hK K
          refine PW.ret ⟨_, rfl, .inl ?_⟩
          rw [← hres]
          exact ⟨rfl, a2, setLv m1 k z64, s1, by omega, d9, rfl⟩
        | ok l a2 =>
          have hbo := tkB_b _ _ _ _ hb ha
          have hll : l.length = 64 := by rw [hbo.2.2, hzl]
          rw [hb] at bt hres
          simp only [rvB, Rr.at] at bt
          rw [Rr.bind_ok] at hres
          have hil : (is l).length = 64 := by rw [is_len, hll]
          have hic := is_cell l
          have d9 := setLv_len m1 k l h6 hll hml
          have hlm9 := hlen _ d9
          have hgl := mbc_gL m1 k l h6 hll hml
          have ez := pqZ64 l hll
          (repeat refine PW.seq ?_); refine PW.rg rfl fun K hK => ?_; simp (maxSteps := 3000000) (disch := omega) only [go_sem, ↓reduceIte, reduceCtorEq, pappend, plen, g5, g4, s4, tB_v, tB_c, tC_w, mB_v, mB_c, mB_e, hlm, hil, hic]; refine VCx.call (bt) rfl ?_; simp (maxSteps := 3000000) (disch := omega) only [go_sem, ↓reduceIte, reduceCtorEq, pappend, plen, g5, g4, s4, tB_v, tB_c, tC_w, mB_v, mB_c, mB_e, hlm, hil, hic]; refine hK _ _ ?_; clear hK K
          simp only [hsL, mB_of]
          (repeat refine PW.seq ?_); refine PW.rg rfl fun K hK => ?_; simp (maxSteps := 3000000) (disch := omega) only [go_sem, ↓reduceIte, reduceCtorEq, pappend, plen]; refine hK _ _ ?_; clear hK K
          (repeat refine PW.seq ?_); refine PW.cond (t := _) rfl (fun h => ?_) (fun h => ?_)
          · cases h
          refine PW.skip ?_
          by_cases hz : l = z64
          · rw [if_pos hz] at hres
            rw [decide_eq_true hz] at ez
            (repeat refine PW.seq ?_); refine PW.rg rfl fun K hK => ?_; simp (maxSteps := 3000000) (disch := omega) only [go_sem, ↓reduceIte, reduceCtorEq, pappend, plen, g4, mB_v, mB_c, hlm9, hgl, hil, ez]; refine hK _ _ ?_; clear hK K
            (repeat refine PW.seq ?_); refine PW.cond (t := _) rfl (fun h => ?_) (fun h => ?_)
            rotate_left
            · cases h
            (repeat refine PW.seq ?_); refine PW.rg rfl fun K hK => ?_; simp (maxSteps := 3000000) (disch := omega) only [go_sem, ↓reduceIte, reduceCtorEq, pappend, plen]; refine hK _ _ ?_; clear hK K
            refine PW.ret ⟨_, rfl, .inl ?_⟩
            rw [← hres]
            exact ⟨rfl, a2, setLv m1 k l, s1, hbo.2.1, d9, rfl⟩
          · rw [if_neg hz] at hres
            rw [decide_eq_false hz] at ez
            (repeat refine PW.seq ?_); refine PW.rg rfl fun K hK => ?_; simp (maxSteps := 3000000) (disch := omega) only [go_sem, ↓reduceIte, reduceCtorEq, pappend, plen, g4, mB_v, mB_c, hlm9, hgl, hil, ez]; refine hK _ _ ?_; clear hK K
            (repeat refine PW.seq ?_); refine PW.cond (t := _) rfl (fun h => ?_) (fun h => ?_)
            · cases h
            refine PW.skip ?_
            refine PW.exit ?_
            (repeat refine PW.seq ?_); refine PW.rg rfl fun K hK => ?_; simp (maxSteps := 3000000) (disch := omega) only [go_sem, ↓reduceIte, reduceCtorEq, pappend, plen]; refine hK _ _ ?_; clear hK K
            exact PL.at [0, 13, 14] (hnx (setLv m1 k l) s1 a2 d9 hcd hs hbo.2.1 hres rfl) rfl rfl
      · rw [if_neg hk] at hres
        have d1 : (m1.k == 2) = false := by simp [hk]
        rw [d1]
        (repeat refine PW.seq ?_); refine PW.cond (t := _) rfl (fun h => ?_) (fun h => ?_)
        · cases h
        refine PW.skip ?_
        have con := co k h6
        have pdc := fun s => tC_d s i c (H.length + 4) hl (k - 3) hq3
        have psd := fun s x => tC_sd s i c (H.length + 4) hl (k - 3) hq3 x
        have hsk := hs (k - 3)
        (repeat refine PW.seq ?_); refine PW.draw mix (by kernel_rfl) fun K hK => ?_; simp (maxSteps := 3000000) (disch := omega) only [go_sem, ↓reduceIte, reduceCtorEq, pappend, plen]
        refine VCy.call (con _) rfl ?_; simp (maxSteps := 3000000) (disch := omega) only [go_sem, ↓reduceIte, reduceCtorEq, pappend, plen, g5, tB_v]; refine hK _ _ ?_; clear hK K
        have td := tdist_ok H i p n a1 X (mB m1) c s1 hl hi hX ha hn hp (dcS s1 (k - 3)) 4095 (by omega) hsk
        cases h1 : tkD p n (dcS s1 (k - 3)) 4095 a1 with
        | er e a2 =>
          have hb := tkD_e h1 ha
          rw [h1] at td hres
          simp only [rvS, Rr.at] at td
          rw [Rr.bind_er] at hres
          have d0 : ((e : Int) + 1 != 0) = true := by simp; omega
          (repeat refine PW.seq ?_); refine PW.rg rfl fun K hK => ?_; simp (maxSteps := 3000000) (disch := omega) only [go_sem, ↓reduceIte, reduceCtorEq, pappend, plen, g5, tB_v, tB_c, pdc, s5, psd, tB_e, tB_of, tC_len]; refine VCx.call (td) rfl ?_; simp (maxSteps := 3000000) (disch := omega) only [go_sem, ↓reduceIte, reduceCtorEq, pappend, plen, g5, tB_v, tB_c, pdc, s5, psd, tB_e, tB_of, tC_len]; refine hK _ _ ?_; clear hK K
          (repeat refine PW.seq ?_); refine PW.rg rfl fun K hK => ?_; simp (maxSteps := 3000000) (disch := omega) only [go_sem, ↓reduceIte, reduceCtorEq, pappend, plen, d0]; refine hK _ _ ?_; clear hK K
          (repeat refine PW.seq ?_); refine PW.cond (t := _) rfl (fun h => ?_) (fun h => ?_)
          rotate_left
          · cases h
          (repeat refine PW.seq ?_); refine PW.rg rfl fun K hK => ?_; simp (maxSteps := 3000000) (disch := omega) only [go_sem, ↓reduceIte, reduceCtorEq, pappend, plen]; refine hK _ _ ?_; clear hK K
          refine PW.ret ⟨_, rfl, .inl ?_⟩
          rw [← hres]
          exact ⟨rfl, a2, m1, setD s1 (k - 3) 0, by omega, hml, rfl⟩
        | ok x a2 =>
          have hb := tkD_b h1 ha
          rw [h1] at td hres
          simp only [rvS, Rr.at] at td
          rw [Rr.bind_ok] at hres
          (repeat refine PW.seq ?_); refine PW.rg rfl fun K hK => ?_; simp (maxSteps := 3000000) (disch := omega) only [go_sem, ↓reduceIte, reduceCtorEq, pappend, plen, g5, tB_v, tB_c, pdc, s5, psd, tB_e, tB_of, tC_len]; refine VCx.call (td) rfl ?_; simp (maxSteps := 3000000) (disch := omega) only [go_sem, ↓reduceIte, reduceCtorEq, pappend, plen, g5, tB_v, tB_c, pdc, s5, psd, tB_e, tB_of, tC_len]; refine hK _ _ ?_; clear hK K
          (repeat refine PW.seq ?_); refine PW.rg rfl fun K hK => ?_; simp (maxSteps := 3000000) (disch := omega) only [go_sem, ↓reduceIte, reduceCtorEq, pappend, plen]; refine hK _ _ ?_; clear hK K
          (repeat refine PW.seq ?_); refine PW.cond (t := _) rfl (fun h => ?_) (fun h => ?_)
          · cases h
          refine PW.skip ?_
          have hs2 := dcR_set hs (k - 3) (x := x) (by omega)
          have pd2 := pdc (setD s1 (k - 3) x)
          rw [dcS_set _ _ _ hq3] at pd2
          have bt := btake_ok i p n a2 1 _ (gi a2 (mB m1) (tB (setD s1 (k - 3) x) i c (H.length + 4) hl)) hb.2.2 hn hp (by omega)
          rw [si] at bt
          cases hbk : tkBl p n 1 a2 with
          | er e a3 =>
            have hbe := tkB_e _ _ _ _ hbk hb.2.2
            rw [hbk] at bt hres
            simp only [rvB, Rr.at] at bt
            rw [Rr.bind_er] at hres
            have hil : (is z64).length = 64 := by rw [is_len, hzl]
            have hic := is_cell z64
            have d0 : ((e : Int) + 1 != 0) = true := by simp; omega
            have d9 := setLv_len m1 k z64 h6 hzl hml
            generalize hZ : is z64 = Z at *
            (repeat refine PW.seq ?_); refine PW.rg rfl fun K hK => ?_; simp (maxSteps := 3000000) (disch := omega) only [go_sem, ↓reduceIte, reduceCtorEq, pappend, plen, g5, g4, s4, tB_v, tB_c, tC_w, mB_v, mB_c, mB_e, hlm, hil, hic]; refine VCx.call (bt) rfl ?_; simp (maxSteps := 3000000) (disch := omega) only [go_sem, ↓reduceIte, reduceCtorEq, pappend, plen, g5, g4, s4, tB_v, tB_c, tC_w, mB_v, mB_c, mB_e, hlm, hil, hic]; refine hK _ _ ?_; clear hK K
            rw [← hZ]
            simp only [hsL, mB_of]
            (repeat refine PW.seq ?_); refine PW.rg rfl fun K hK => ?_; simp (maxSteps := 3000000) (disch := omega) only [go_sem, ↓reduceIte, reduceCtorEq, pappend, plen, d0]; refine hK _ _ ?_; clear hK K
            (repeat refine PW.seq ?_); refine PW.cond (t := _) rfl (fun h => ?_) (fun h => ?_)
            rotate_left
            · cases h
            (repeat refine PW.seq ?_); refine PW.rg rfl fun K hK => ?_; simp (maxSteps := 3000000) (disch := omega) only [go_sem, ↓reduceIte, reduceCtorEq, pappend, plen]; refine hK _ _ ?_; clear hK K
            refine PW.ret ⟨_, rfl, .inl ?_⟩
            rw [← hres]
            exact ⟨rfl, a3, setLv m1 k z64, setD s1 (k - 3) x, by omega, d9, rfl⟩
          | ok l a3 =>
            have hbo := tkB_b _ _ _ _ hbk hb.2.2
            have hll : l.length = 64 := by rw [hbo.2.2, hzl]
            rw [hbk] at bt hres
            simp only [rvB, Rr.at] at bt
            rw [Rr.bind_ok] at hres
            have hil : (is l).length = 64 := by rw [is_len, hll]
            have hic := is_cell l
            have d9 := setLv_len m1 k l h6 hll hml
            have hlm9 := hlen _ d9
            have hs0 := mbc_s0 m1 k l x h6 hll hml
            have d8 := setLv_len m1 k (l.set 0 x) h6 (by rw [List.length_set]; exact hll) hml
            (repeat refine PW.seq ?_); refine PW.rg rfl fun K hK => ?_; simp (maxSteps := 3000000) (disch := omega) only [go_sem, ↓reduceIte, reduceCtorEq, pappend, plen, g5, g4, s4, tB_v, tB_c, tC_w, mB_v, mB_c, mB_e, hlm, hil, hic]; refine VCx.call (bt) rfl ?_; simp (maxSteps := 3000000) (disch := omega) only [go_sem, ↓reduceIte, reduceCtorEq, pappend, plen, g5, g4, s4, tB_v, tB_c, tC_w, mB_v, mB_c, mB_e, hlm, hil, hic]; refine hK _ _ ?_; clear hK K
            simp only [hsL, mB_of]
            (repeat refine PW.seq ?_); refine PW.rg rfl fun K hK => ?_; simp (maxSteps := 3000000) (disch := omega) only [go_sem, ↓reduceIte, reduceCtorEq, pappend, plen]; refine hK _ _ ?_; clear hK K
            (repeat refine PW.seq ?_); refine PW.cond (t := _) rfl (fun h => ?_) (fun h => ?_)
            · cases h
            refine PW.skip ?_
            (repeat refine PW.seq ?_); refine PW.drawt [] [] mix (by kernel_rfl) fun K hK => ?_; simp (maxSteps := 3000000) (disch := omega) only [go_sem, ↓reduceIte, reduceCtorEq, pappend, plen, g5, g4, s4, tB_v, tB_c, pd2, mB_v, mB_c, mB_e, hlm9, hs0, mB_of]; refine hK _ _ ?_; clear hK K
            (repeat refine PW.seq ?_); refine PW.rg rfl fun K hK => ?_; simp (maxSteps := 3000000) (disch := omega) only [go_sem, ↓reduceIte, reduceCtorEq, pappend, plen]; refine hK _ _ ?_; clear hK K
            exact PL.at [0, 13, 14] (hnx (setLv m1 k (l.set 0 x)) (setD s1 (k - 3) x) a3 d8 hcd hs2 hbo.2.1 hres rfl) rfl rfl
end

end Go.Proofs.Ytcabpncdgagihaa.Sc

namespace Go.Proofs.Ytcabpncdgagihaa.Sc
set_option linter.all false
set_option linter.unusedVariables false
set_option linter.unusedSimpArgs false
open Pm Ty Go.RowKit

/-- Trailing zeros of a byte. -/
def tz8 (b : Nat) : Nat := if b % 2 ≠ 0 then 0 else if b % 4 ≠ 0 then 1 else if b % 8 ≠ 0 then 2 else if b % 16 ≠ 0 then 3 else if b % 32 ≠ 0 then 4 else if b % 64 ≠ 0 then 5 else if b % 128 ≠ 0 then 6 else if b % 256 ≠ 0 then 7 else 8
theorem tz8_fact : ∀ b < 256, b = 0 ∨ (tz8 b < 8 ∧ b / 2 ^ tz8 b % 2 = 1 ∧ ∀ j < 8, tz8 b ≤ j ∨ b / 2 ^ j % 2 = 0) := by decide +kernel

def isInt (r : Option Res) (v : Nat) : Bool := match r with
  | some (.val (.int .i64 n) []) => n == (v : Int)
  | _ => false
theorem tz_all : ∀ b : Nat, b < 256 → isInt (evalN Try.prog 100 (.call 53 [.int .u8 (b : Int)] [])) (tz8 b) = true := by decide +kernel
theorem tz_ok (b : Nat) (hb : b < 256) (H : Heap) : CallOk Try.prog 53 [.int .u8 (b : Int)] H (.int .i64 (tz8 b : Int)) H := by
  refine CallOk.eval 100 ?_ ?_
  · have h := tz_all b hb
    unfold isInt at h
    split at h
    · rename_i he; rw [he, eq_of_beq h]
    · cases h
  · intro x hx
    simp only [List.mem_cons, List.not_mem_nil, or_false] at hx
    rw [hx]; exact .int _ _

/-- The last byte; the number of bits ahead of the last set one. -/
def lastB (q : List UInt8) : Nat := (q.getD (q.length - 1) 0).toNat
def nb (q : List UInt8) : Nat := 8 * q.length - 1 - tz8 (lastB q)

theorem newr_bad (q : List UInt8) (f : Bool) (H : Heap) (hl : q.length ≤ 100000000) (hb : q.length = 0 ∨ lastB q = 0) :
    CallOk Try.prog 21 [.slice (bs q) q.length f] H (.tup [.nilp, .int .i64 3]) H := by
  refine CallOk.body (F0 := [(0, .slice (bs q) q.length f)]) Try.func21 rfl Try.ntmps21 Try.results21 rfl (by kernel_rfl) rfl ?_
  by_cases h0 : q.length = 0
  · (repeat refine PW.seq ?_); refine PW.rg rfl fun K hK => ?_; simp (maxSteps := 3000000) (disch := omega) only [go_sem, ↓reduceIte, reduceCtorEq, pappend, plen]; refine hK _ _ ?_; clear hK K
    (repeat refine PW.seq ?_); refine PW.rg rfl fun K hK => ?_; simp (maxSteps := 3000000) (disch := omega) only [go_sem, ↓reduceIte, reduceCtorEq, pappend, plen, h0]
    refine hK _ _ ?_; clear hK K
    (repeat refine PW.seq ?_); refine PW.cond (t := _) rfl (fun h => ?_) (fun h => ?_)
    · (repeat refine PW.seq ?_); refine PW.rg rfl fun K hK => ?_; simp (maxSteps := 3000000) (disch := omega) only [go_sem, ↓reduceIte, reduceCtorEq, pappend, plen]; refine hK _ _ ?_; clear hK K
      exact PW.ret ⟨_, rfl, Fin.now⟩
    · cases h
  · have e1 : (q.length : Int) - 1 = ((q.length - 1 : Nat) : Int) := by omega
    have hby : byt q (q.length - 1) = 0 := by
      have : byt q (q.length - 1) = (lastB q : Int) := rfl
      omega
    (repeat refine PW.seq ?_); refine PW.rg rfl fun K hK => ?_; simp (maxSteps := 3000000) (disch := omega) only [go_sem, ↓reduceIte, reduceCtorEq, pappend, plen]; refine hK _ _ ?_; clear hK K
    (repeat refine PW.seq ?_); refine PW.rg rfl fun K hK => ?_; simp (maxSteps := 3000000) (disch := omega) only [go_sem, ↓reduceIte, reduceCtorEq, pappend, plen, e1, bs_get, length_bs, hby]
    refine hK _ _ ?_; clear hK K
    (repeat refine PW.seq ?_); refine PW.cond (t := _) rfl (fun h => ?_) (fun h => ?_)
    · (repeat refine PW.seq ?_); refine PW.rg rfl fun K hK => ?_; simp (maxSteps := 3000000) (disch := omega) only [go_sem, ↓reduceIte, reduceCtorEq, pappend, plen]; refine hK _ _ ?_; clear hK K
      exact PW.ret ⟨_, rfl, Fin.now⟩
    · cases h
theorem newr_ok (q : List UInt8) (f : Bool) (H : Heap) (hl : q.length ≤ 100000000) (hq : q.length ≠ 0) (hb : lastB q ≠ 0) :
    CallOk Try.prog 21 [.slice (bs q) q.length f] H (.tup [.ptr (H.length + 1) 0 0, .int .i64 0]) (H ++ [⟨5, 1, []⟩, rA q (nb q) 0]) := by
  have e1 : (q.length : Int) - 1 = ((q.length - 1 : Nat) : Int) := by omega
  have hby : byt q (q.length - 1) = (lastB q : Int) := rfl
  have hlt : lastB q < 256 := UInt8.toNat_lt _
  have htz : tz8 (lastB q) < 8 := ((tz8_fact _ hlt).resolve_left hb).1
  refine CallOk.body (F0 := [(0, .slice (bs q) q.length f)]) Try.func21 rfl Try.ntmps21 Try.results21 rfl (by kernel_rfl) rfl ?_
  (repeat refine PW.seq ?_); refine PW.rg rfl fun K hK => ?_; simp (maxSteps := 3000000) (disch := omega) only [go_sem, ↓reduceIte, reduceCtorEq, pappend, plen]; refine hK _ _ ?_; clear hK K
  (repeat refine PW.seq ?_); refine PW.rg rfl fun K hK => ?_; simp (maxSteps := 3000000) (disch := omega) only [go_sem, ↓reduceIte, reduceCtorEq, pappend, plen, e1, bs_get, length_bs, hby]; refine hK _ _ ?_; clear hK K
  (repeat refine PW.seq ?_); refine PW.cond (t := _) rfl (fun h => ?_) (fun h => ?_)
  · cases h
  refine PW.skip ?_
  (repeat refine PW.seq ?_); refine PW.rg rfl fun K hK => ?_; simp (maxSteps := 3000000) (disch := omega) only [go_sem, ↓reduceIte, reduceCtorEq, pappend, plen]; refine hK _ _ ?_; clear hK K
  have hcl : (List.replicate q.length [PV.int .u8 0]).flatten.length = q.length := by simp
  refine PW.to [0, 4] [(0, .slice (bs q) q.length f), (4, .ptr (H.length + 1) 0 0)] (H ++ [⟨5, 0, bs q⟩, ⟨122, 0, [.msl H.length 0 0 q.length 1 true, .int .i64 0, .int .i64 0]⟩]) ?_ ?_
  · (repeat refine PW.seq ?_); refine PW.rg rfl fun K hK => ?_; simp (maxSteps := 3000000) (disch := omega) only [go_sem, ↓reduceIte, reduceCtorEq, pappend, plen, length_bs, hcl]; refine hK _ _ ?_; clear hK K
    refine ⟨rfl, ?_⟩
    have htk : List.take q.length (bs q) = bs q := List.take_of_length_le (by rw [length_bs]; exact Nat.le_refl _)
    simp [splice, reps, length_bs, htk]
  refine PW.view (Vs.frzCell (id := H.length) (id' := H.length + 1) (j := 0) (hp0 _ _ _) (hp1 _ _ _ _) (by omega) rfl (by simp [length_bs])) ?_
  simp only [hs0, hs1, List.set_cons_zero]
  (repeat refine PW.seq ?_); refine PW.rg rfl fun K hK => ?_; simp (maxSteps := 3000000) (disch := omega) only [go_sem, ↓reduceIte, reduceCtorEq, pappend, plen, length_bs, e1, bs_get, hby]; refine VCx.call (tz_ok _ hlt _) rfl ?_; simp (maxSteps := 3000000) (disch := omega) only [go_sem, ↓reduceIte, reduceCtorEq, pappend, plen, length_bs, e1, bs_get, hby]; refine hK _ _ ?_; clear hK K
  (repeat refine PW.seq ?_); refine PW.rg rfl fun K hK => ?_; simp (maxSteps := 3000000) (disch := omega) only [go_sem, ↓reduceIte, reduceCtorEq, pappend, plen]; refine hK _ _ ?_; clear hK K
  have e2 : 8 * (q.length : Int) - 1 - (tz8 (lastB q) : Int) = (nb q : Int) := by unfold nb; omega
  refine PW.ret ⟨_, rfl, ?_⟩
  refine .inl ⟨?_, ?_⟩
  · simp [slot, Nat.beq]
  · rw [e2]; rfl

end Go.Proofs.Ytcabpncdgagihaa.Sc

namespace Go.Proofs.Ytcabpncdgagihaa.Sc
set_option linter.all false
set_option linter.unusedVariables false
set_option linter.unusedSimpArgs false
open Pm Ty Go.RowKit

/-- What a call leaves behind beyond the heap is lost; its value given up. -/
theorem _root_.Go.Proofs.Ytcabpncdgagihaa.Pm.CallOk.lose {P : Program} {H : Heap} {f : FuncId} {args : List PV} {v v' : PV} {K : Heap} (h : CallOk P f args H v (H ++ K)) (hz : Fz H.length (H ++ K) v v') : CallOk P f args H v' H :=
  ⟨h.1, fun C us w hw hu => (h.2 C us w hw hu).mono fun e w' ⟨C', u, q1, q2, q3, q4, q5⟩ => by
    obtain ⟨g1, g2⟩ := WRel.give hw q1 q2
    exact ⟨_, u, g1, g2, q3, q4, Fz.sound q2 hz q5⟩⟩

theorem bits_refF (V n : Nat) (H : Heap) (hn : n ≤ 32) : CallOk Try.prog 82 [.int .u32 (V : Int), .int .i64 (n : Int)] H (.slice (bs (zb (vbits V n))) n false) H :=
  (bits_ref V n H hn).lose (Fz.mslC (e := 5) (xs := bs (zb (vbits V n))) (Nat.le_refl _) (by simp) (by simp [length_bs, zb_len, vbits_len]) (FzC.refl (bs_scoped _ _)))

/-- All bits of some bytes. -/
def bl (q : List UInt8) : List Bool := (List.range (8 * q.length)).map fun k => decide (ubit q k = 1)
theorem bl_len (q : List UInt8) : (bl q).length = 8 * q.length := by simp [bl]
theorem bl_bn (q : List UInt8) (k : Nat) (h : k < 8 * q.length) : bn (bl q) k = ubit q k := by
  have := ubit_lt q k
  simp [bn, bl, h]
  have : ubit q k = 0 ∨ ubit q k = 1 := by omega
  rcases this with e | e <;> simp [e]
theorem bl_get (q : List UInt8) (k : Nat) (h : k < 8 * q.length) : (bs (zb (bl q)))[k]? = some (.int .u8 (ubit q k : Int)) := by
  rw [bs_get _ _ (by rw [zb_len, bl_len]; exact h), zb_byt _ _ (by rw [bl_len]; exact h), bl_bn q k h]
theorem bl_take (q : List UInt8) (k : Nat) (h : k < q.length) : bl (q.take (k + 1)) = bl (q.take k) ++ vbits (q.getD k 0).toNat 8 := by
  apply List.ext_getElem?
  intro j
  have h1 : (q.take (k + 1)).length = k + 1 := by simp; omega
  have h2 : (q.take k).length = k := by simp; omega
  by_cases hj : j < 8 * k
  · rw [List.getElem?_append_left (by rw [bl_len, h2]; exact hj)]
    simp only [bl, List.getElem?_map]
    rw [List.getElem?_range (by omega), List.getElem?_range (by omega)]
    simp only [Option.map_some, ubit, List.getD, List.getElem?_take]
    rw [if_pos (by omega), if_pos (by omega)]
  · by_cases hj2 : j < 8 * (k + 1)
    · rw [List.getElem?_append_right (by rw [bl_len, h2]; omega), bl_len, h2]
      simp only [bl, vbits, List.getElem?_map]
      rw [List.getElem?_range (by omega), List.getElem?_range (by omega)]
      simp only [Option.map_some, ubit, List.getD, List.getElem?_take]
      rw [if_pos (by omega), show j / 8 = k by omega, show 7 - j % 8 = 8 - 1 - (j - 8 * k) by omega]
      rfl
    · rw [List.getElem?_eq_none (by rw [bl_len, h1]; omega), List.getElem?_eq_none (by rw [List.length_append, bl_len, h2, vbits_len]; omega)]

theorem ubit_last (q : List UInt8) (r : Nat) (hq : q.length ≠ 0) (hr : r < 8) : ubit q (8 * q.length - 1 - r) = lastB q / 2 ^ r % 2 := by
  unfold ubit lastB
  rw [show (8 * q.length - 1 - r) / 8 = q.length - 1 by omega, show 7 - (8 * q.length - 1 - r) % 8 = r by omega]
theorem nb_one (q : List UInt8) (hq : q.length ≠ 0) (hb : lastB q ≠ 0) : ubit q (nb q) = 1 ∧ nb q < 8 * q.length ∧ ∀ j, nb q < j → j < 8 * q.length → ubit q j = 0 := by
  have hlt : lastB q < 256 := UInt8.toNat_lt _
  obtain ⟨h1, h2, h3⟩ := (tz8_fact _ hlt).resolve_left hb
  refine ⟨?_, by unfold nb; omega, fun j hj hj2 => ?_⟩
  · rw [nb, ubit_last q _ hq h1, h2]
  · unfold nb at hj
    have := ubit_last q (8 * q.length - 1 - j) hq (by omega)
    rw [show 8 * q.length - 1 - (8 * q.length - 1 - j) = j by omega] at this
    rw [this]
    exact (h3 _ (by omega)).resolve_left (by omega)

end Go.Proofs.Ytcabpncdgagihaa.Sc

namespace Go.Proofs.Ytcabpncdgagihaa.Sc
set_option linter.all false
set_option linter.unusedVariables false
set_option linter.unusedSimpArgs false
open Pm Ty Go.RowKit

/-- The reference's reader. -/
def rR (j v n a : Nat) : Blk := ⟨184, 0, [.msl j v 0 n 1 true, .int .i64 (a : Int)]⟩
def rB (q : List UInt8) (v : Nat) : Blk := ⟨5, v, bs (zb (bl q))⟩

theorem rleft_ref (i j v : Nat) (q : List UInt8) (n a : Nat) (H : Heap) (hA : H[i]? = some (rR j v n a)) (hB : H[j]? = some (rB q v)) (ha : a ≤ n) (hn : n ≤ 1000000000) : CallOk Try.prog 113 [.ptr i 0 0] H (.int .i64 ((n - a : Nat) : Int)) H := by
  have e : (n : Int) - (a : Int) = ((n - a : Nat) : Int) := by omega
  refine CallOk.body (F0 := [(0, .ptr i 0 0)]) Try.func113 rfl Try.ntmps113 Try.results113 rfl (by kernel_rfl) rfl ?_
  (repeat refine PW.seq ?_); refine PW.rg rfl fun K hK => ?_; simp (maxSteps := 3000000) (disch := omega) only [go_sem, ↓reduceIte, reduceCtorEq, pappend, plen]; refine hK _ _ ?_; clear hK K
  (repeat refine PW.seq ?_); refine PW.draw mix (by kernel_rfl) fun K hK => ?_; simp (maxSteps := 3000000) (disch := omega) only [go_sem, ↓reduceIte, reduceCtorEq, pappend, plen, hA, hB, rR, rB, e]; refine hK _ _ ?_; clear hK K
  exact PW.ret ⟨_, rfl, Fin.now⟩

theorem rtake_ref (i j v : Nat) (q : List UInt8) (n a m : Nat) (H : Heap) (hA : H[i]? = some (rR j v n a)) (hB : H[j]? = some (rB q v)) (hne : i ≠ j) (ha : a + m ≤ n) (hn : n ≤ 8 * q.length) (hq : q.length ≤ 100000000) (hm : m ≤ 32) :
    CallOk Try.prog 110 [.ptr i 0 0, .int .i64 (m : Int)] H (.tup [.int .u32 (vl q a m : Int), .int .i64 0]) (H.set i (rR j v n (a + m))) := by
  have hi := (List.getElem?_eq_some_iff.1 hA).1
  have hlf := rleft_ref i j v q n a H hA hB (by omega) (by omega)
  refine CallOk.body (F0 := [(0, .ptr i 0 0), (1, .int .i64 (m : Int))]) Try.func110 rfl Try.ntmps110 Try.results110 rfl (by kernel_rfl) rfl ?_
  (repeat refine PW.seq ?_); refine PW.rg rfl fun K hK => ?_; simp (maxSteps := 3000000) (disch := omega) only [go_sem, ↓reduceIte, reduceCtorEq, pappend, plen]; refine hK _ _ ?_; clear hK K
  (repeat refine PW.seq ?_); refine PW.rg rfl fun K hK => ?_; simp (maxSteps := 3000000) (disch := omega) only [go_sem, ↓reduceIte, reduceCtorEq, pappend, plen]; refine hK _ _ ?_; clear hK K
  (repeat refine PW.seq ?_); refine PW.cond (t := _) rfl (fun h => ?_) (fun h => ?_)
  · cases h
  refine PW.skip ?_
  (repeat refine PW.seq ?_); refine PW.rg rfl fun K hK => ?_; simp (maxSteps := 3000000) (disch := omega) only [go_sem, ↓reduceIte, reduceCtorEq, pappend, plen]; refine VCx.call (hlf) rfl ?_; simp (maxSteps := 3000000) (disch := omega) only [go_sem, ↓reduceIte, reduceCtorEq, pappend, plen]; refine hK _ _ ?_; clear hK K
  (repeat refine PW.seq ?_); refine PW.cond (t := _) rfl (fun h => ?_) (fun h => ?_)
  · cases h
  refine PW.skip ?_
  (repeat refine PW.seq ?_); refine PW.rg rfl fun K hK => ?_; simp (maxSteps := 3000000) (disch := omega) only [go_sem, ↓reduceIte, reduceCtorEq, pappend, plen]; refine hK _ _ ?_; clear hK K
  (repeat refine PW.seq ?_); refine PW.rg rfl fun K hK => ?_; simp (maxSteps := 3000000) (disch := omega) only [go_sem, ↓reduceIte, reduceCtorEq, pappend, plen]; refine hK _ _ ?_; clear hK K
  (repeat refine PW.seq ?_); refine PW.block (PW.loop ?_)
  suffices hloop : ∀ (k : Nat), k ≤ m → PL Try.prog _ _ [(0, .ptr i 0 0), (1, .int .i64 (m : Int)), (6, .int .u32 (vl q a k : Int)), (7, .int .i64 (k : Int))] H _ by
    exact PL.at [0, 1, 6, 7] (hloop 0 (Nat.zero_le _)) rfl rfl
  intro k hk
  induction hmk : m - k using Nat.strongRecOn generalizing k with
  | _ r ih =>
    refine PL.round ?_; (repeat refine PW.seq ?_); refine PW.rg rfl fun K hK => ?_; simp (maxSteps := 3000000) (disch := omega) only [go_sem, ↓reduceIte, reduceCtorEq, pappend, plen]; refine hK _ _ ?_; clear hK K
    (repeat refine PW.seq ?_); refine PW.cond (t := _) rfl (fun h => ?_) (fun h => ?_)
    · have h4 : k < m := by have := of_decide_eq_true h; omega
      have hnext := ih (m - (k + 1)) (by omega) (k + 1) (by omega) rfl
      have hul := ubit_lt q (a + k)
      have hvl := vl_lt q a k
      have hvl2 : 2 * vl q a k < 4294967296 := by
        have : 2 ^ k ≤ 2 ^ 31 := Nat.pow_le_pow_right (by omega) (by omega)
        omega
      have e4 : (a : Int) + (k : Int) = ((a + k : Nat) : Int) := by omega
      have hbl := bl_len q
      refine PW.skip ?_; (repeat refine PW.seq ?_); refine PW.block ?_
      (repeat refine PW.seq ?_); refine PW.draw mix (by kernel_rfl) fun K hK => ?_; simp (maxSteps := 3000000) (disch := omega) only [go_sem, ↓reduceIte, reduceCtorEq, pappend, plen, hA, hB, rR, rB, e4, length_bs, zb_len, hbl, bl_get, pshl1_u32, por_u32]; refine hK _ _ ?_; clear hK K
      (repeat refine PW.seq ?_); refine PW.rg rfl fun K hK => ?_; simp (maxSteps := 3000000) (disch := omega) only [go_sem, ↓reduceIte, reduceCtorEq, pappend, plen]; refine hK _ _ ?_; clear hK K
      exact PL.at [0, 1, 6, 7] hnext rfl rfl
    · have h4 : k = m := by have := of_decide_eq_false h; omega
      subst h4
      have e4 : (a : Int) + (k : Int) = ((a + k : Nat) : Int) := by omega
      refine PW.exit ?_
      (repeat refine PW.seq ?_); refine PW.rg rfl fun K hK => ?_; simp (maxSteps := 3000000) (disch := omega) only [go_sem, ↓reduceIte, reduceCtorEq, pappend, plen, hA, rR, e4]; refine hK _ _ ?_; clear hK K
      (repeat refine PW.seq ?_); refine PW.rg rfl fun K hK => ?_; simp (maxSteps := 3000000) (disch := omega) only [go_sem, ↓reduceIte, reduceCtorEq, pappend, plen]; refine hK _ _ ?_; clear hK K
      exact PW.ret ⟨_, rfl, Fin.now⟩

end Go.Proofs.Ytcabpncdgagihaa.Sc

namespace Go.Proofs.Ytcabpncdgagihaa.Sc
set_option linter.all false
set_option linter.unusedVariables false
set_option linter.unusedSimpArgs false
open Pm Ty Go.RowKit

theorem open_bad (q : List UInt8) (f : Bool) (H : Heap) (hl : q.length ≤ 100000000) (hb : q.length = 0 ∨ lastB q = 0) :
    CallOk Try.prog 109 [.slice (bs q) q.length f] H (.tup [.nilp, .int .i64 3]) H := by
  refine CallOk.body (F0 := [(0, .slice (bs q) q.length f)]) Try.func109 rfl Try.ntmps109 Try.results109 rfl (by kernel_rfl) rfl ?_
  by_cases h0 : q.length = 0
  · (repeat refine PW.seq ?_); refine PW.rg rfl fun K hK => ?_; simp (maxSteps := 3000000) (disch := omega) only [go_sem, ↓reduceIte, reduceCtorEq, pappend, plen]; refine hK _ _ ?_; clear hK K
    (repeat refine PW.seq ?_); refine PW.rg rfl fun K hK => ?_; simp (maxSteps := 3000000) (disch := omega) only [go_sem, ↓reduceIte, reduceCtorEq, pappend, plen, h0]
    refine hK _ _ ?_; clear hK K
    (repeat refine PW.seq ?_); refine PW.cond (t := _) rfl (fun h => ?_) (fun h => ?_)
    · (repeat refine PW.seq ?_); refine PW.rg rfl fun K hK => ?_; simp (maxSteps := 3000000) (disch := omega) only [go_sem, ↓reduceIte, reduceCtorEq, pappend, plen]; refine hK _ _ ?_; clear hK K
      exact PW.ret ⟨_, rfl, Fin.now⟩
    · cases h
  · have e1 : (q.length : Int) - 1 = ((q.length - 1 : Nat) : Int) := by omega
    have hby : byt q (q.length - 1) = 0 := by
      have : byt q (q.length - 1) = (lastB q : Int) := rfl
      omega
    (repeat refine PW.seq ?_); refine PW.rg rfl fun K hK => ?_; simp (maxSteps := 3000000) (disch := omega) only [go_sem, ↓reduceIte, reduceCtorEq, pappend, plen]; refine hK _ _ ?_; clear hK K
    (repeat refine PW.seq ?_); refine PW.rg rfl fun K hK => ?_; simp (maxSteps := 3000000) (disch := omega) only [go_sem, ↓reduceIte, reduceCtorEq, pappend, plen, e1, bs_get, length_bs, hby]
    refine hK _ _ ?_; clear hK K
    (repeat refine PW.seq ?_); refine PW.cond (t := _) rfl (fun h => ?_) (fun h => ?_)
    · (repeat refine PW.seq ?_); refine PW.rg rfl fun K hK => ?_; simp (maxSteps := 3000000) (disch := omega) only [go_sem, ↓reduceIte, reduceCtorEq, pappend, plen]; refine hK _ _ ?_; clear hK K
      exact PW.ret ⟨_, rfl, Fin.now⟩
    · cases h
theorem open_ok (q : List UInt8) (f : Bool) (H : Heap) (hl : q.length ≤ 100000000) (hq : q.length ≠ 0) (hb : lastB q ≠ 0) :
    CallOk Try.prog 109 [.slice (bs q) q.length f] H (.tup [.ptr (H.length + 1) 0 0, .int .i64 0]) (H ++ [rB q (8 * q.length), rR H.length (8 * q.length) (nb q) 0]) := by
  have e1 : (q.length : Int) - 1 = ((q.length - 1 : Nat) : Int) := by omega
  have hby : byt q (q.length - 1) = (lastB q : Int) := rfl
  obtain ⟨n1, n2, n3⟩ := nb_one q hq hb
  refine CallOk.body (F0 := [(0, .slice (bs q) q.length f)]) Try.func109 rfl Try.ntmps109 Try.results109 rfl (by kernel_rfl) rfl ?_
  (repeat refine PW.seq ?_); refine PW.rg rfl fun K hK => ?_; simp (maxSteps := 3000000) (disch := omega) only [go_sem, ↓reduceIte, reduceCtorEq, pappend, plen]; refine hK _ _ ?_; clear hK K
  (repeat refine PW.seq ?_); refine PW.rg rfl fun K hK => ?_; simp (maxSteps := 3000000) (disch := omega) only [go_sem, ↓reduceIte, reduceCtorEq, pappend, plen, e1, bs_get, length_bs, hby]; refine hK _ _ ?_; clear hK K
  (repeat refine PW.seq ?_); refine PW.cond (t := _) rfl (fun h => ?_) (fun h => ?_)
  · cases h
  refine PW.skip ?_
  (repeat refine PW.seq ?_); refine PW.rg rfl fun K hK => ?_; simp (maxSteps := 3000000) (disch := omega) only [go_sem, ↓reduceIte, reduceCtorEq, pappend, plen]; refine hK _ _ ?_; clear hK K
  (repeat refine PW.seq ?_); refine PW.rg rfl fun K hK => ?_; simp (maxSteps := 3000000) (disch := omega) only [go_sem, ↓reduceIte, reduceCtorEq, pappend, plen]; refine hK _ _ ?_; clear hK K
  (repeat refine PW.seq ?_)
  refine PW.view (Vs.ghost 4 5 1 rfl) ?_
  refine PW.block (PW.loop ?_)
  suffices hloop : ∀ (k : Nat), k ≤ q.length → PL Try.prog _ _ [(0, .slice (bs q) q.length f), (4, .msl H.length (8 * k) 0 (8 * k) 1 true), (5, .int .i64 (k : Int))] (H ++ [⟨5, (8 * k), bs (zb (bl (q.take k)))⟩]) _ by
    exact PL.at [0, 4, 5] (hloop 0 (Nat.zero_le _)) (by simp (maxSteps := 3000000) (disch := omega) only [go_sem, ↓reduceIte, reduceCtorEq, pappend, plen]; simp [zb, bs, bl]) (by simp [zb, bs, bl])
  intro k hk
  induction hm : q.length - k using Nat.strongRecOn generalizing k with
  | _ m ih =>
    have hlk : (zb (bl (q.take k))).length = 8 * k := by rw [zb_len, bl_len, List.length_take]; omega
    refine PL.round ?_; (repeat refine PW.seq ?_); refine PW.rg rfl fun K hK => ?_; simp (maxSteps := 3000000) (disch := omega) only [go_sem, ↓reduceIte, reduceCtorEq, pappend, plen]; refine hK _ _ ?_; clear hK K
    (repeat refine PW.seq ?_); refine PW.cond (t := _) rfl (fun h => ?_) (fun h => ?_)
    · have h4 : k < q.length := by have := of_decide_eq_true h; omega
      have hnext := ih (q.length - (k + 1)) (by omega) (k + 1) (by omega) rfl
      rw [bl_take q k h4, zb_append, bs_append] at hnext
      have hbk : byt q k = ((q.getD k 0).toNat : Int) := rfl
      have hr := byt_range q k
      have hv8 : (vbits (q.getD k 0).toNat 8).length = 8 := vbits_len _ _
      refine PW.skip ?_; (repeat refine PW.seq ?_); refine PW.block ?_
      have hbits := bits_refF (q.getD k 0).toNat 8 (H ++ [⟨5, (8 * k), bs (zb (bl (q.take k)))⟩]) (by omega)
      (repeat refine PW.seq ?_); refine PW.rg rfl fun K hK => ?_; simp (maxSteps := 3000000) (disch := omega) only [go_sem, ↓reduceIte, reduceCtorEq, pappend, plen, bs_get, length_bs, hlk, hbk, zb_len, hv8]; refine VCx.call (hbits) rfl ?_; simp (maxSteps := 3000000) (disch := omega) only [go_sem, ↓reduceIte, reduceCtorEq, pappend, plen, bs_get, length_bs, hlk, hbk, zb_len, hv8]; refine hK _ _ ?_; clear hK K
      (repeat refine PW.seq ?_); refine PW.rg rfl fun K hK => ?_; simp (maxSteps := 3000000) (disch := omega) only [go_sem, ↓reduceIte, reduceCtorEq, pappend, plen]; refine hK _ _ ?_; clear hK K
      have hce : (bs (zb (bl (List.take k q))) ++ bs (zb (vbits (q.getD k 0).toNat 8))).length = 8 * (k + 1) := by rw [List.length_append, length_bs, length_bs, hlk, zb_len, hv8]; omega
      refine PL.at [0, 4, 5] hnext ?_ ?_
      · simp (maxSteps := 3000000) (disch := omega) only [go_sem, ↓reduceIte, reduceCtorEq, pappend, plen]
        rw [hce]; rfl
      · rw [hce]
    · have h4 : k = q.length := by have := of_decide_eq_false h; omega
      subst h4
      rw [List.take_of_length_le (Nat.le_refl _)] at hlk ⊢
      refine PW.exit ?_
      have hbl := bl_len q
      have e2 : ((8 * q.length : Nat) : Int) - 1 = ((8 * q.length - 1 : Nat) : Int) := by omega
      (repeat refine PW.seq ?_); refine PW.rg rfl fun K hK => ?_; simp (maxSteps := 3000000) (disch := omega) only [go_sem, ↓reduceIte, reduceCtorEq, pappend, plen, length_bs, e2]; refine hK _ _ ?_; clear hK K
      (repeat refine PW.seq ?_); refine PW.block (PW.loop ?_)
      clear ih
      suffices hloop : ∀ (m : Nat), nb q ≤ m → m < 8 * q.length → PL Try.prog _ _ [(4, .msl H.length (8 * q.length) 0 (8 * q.length) 1 true), (6, .int .i64 (m : Int))] (H ++ [⟨5, 8 * q.length, bs (zb (bl q))⟩]) _ by
        exact PL.at [4, 6] (hloop (8 * q.length - 1) (by omega) (by omega)) rfl rfl
      intro m hm1 hm2
      induction m using Nat.strongRecOn with
      | _ m ih =>
        refine PL.round ?_
        by_cases h5 : m = nb q
        · have h6 : ubit q m = 1 := by rw [h5]; exact n1
          (repeat refine PW.seq ?_); refine PW.rg rfl fun K hK => ?_; simp (maxSteps := 3000000) (disch := omega) only [go_sem, ↓reduceIte, reduceCtorEq, pappend, plen, length_bs, zb_len, hbl, bl_get, h6]; refine hK _ _ ?_; clear hK K
          (repeat refine PW.seq ?_); refine PW.cond (t := _) rfl (fun h => ?_) (fun h => ?_)
          · cases h
          refine PW.exit ?_
          (repeat refine PW.seq ?_); refine PW.rg rfl fun K hK => ?_; simp (maxSteps := 3000000) (disch := omega) only [go_sem, ↓reduceIte, reduceCtorEq, pappend, plen, h5]; refine hK _ _ ?_; clear hK K
          exact PW.ret ⟨_, rfl, Fin.now⟩
        · have h6 : ubit q m = 0 := n3 m (by omega) hm2
          have e3 : (m : Int) - 1 = ((m - 1 : Nat) : Int) := by omega
          (repeat refine PW.seq ?_); refine PW.rg rfl fun K hK => ?_; simp (maxSteps := 3000000) (disch := omega) only [go_sem, ↓reduceIte, reduceCtorEq, pappend, plen, length_bs, zb_len, hbl, bl_get, h6]; refine hK _ _ ?_; clear hK K
          (repeat refine PW.seq ?_); refine PW.cond (t := _) rfl (fun h => ?_) (fun h => ?_)
          · refine PW.skip ?_; (repeat refine PW.seq ?_); refine PW.block ?_
            (repeat refine PW.seq ?_); refine PW.rg rfl fun K hK => ?_; simp (maxSteps := 3000000) (disch := omega) only [go_sem, ↓reduceIte, reduceCtorEq, pappend, plen, e3]; refine hK _ _ ?_; clear hK K
            exact PL.at [4, 6] (ih (m - 1) (by omega) (by omega) (by omega)) rfl rfl
          · cases h

end Go.Proofs.Ytcabpncdgagihaa.Sc

namespace Go.Proofs.Ytcabpncdgagihaa.Sc
set_option linter.all false
set_option linter.unusedVariables false
set_option linter.unusedSimpArgs false
open Pm Ty Go.RowKit

theorem tkr_ref (i j v : Nat) (q : List UInt8) (n a : Nat) (H : Heap) (hA : H[i]? = some (rR j v n a)) (hB : H[j]? = some (rB q v)) (hne : i ≠ j) (ha : a ≤ n) (hn : n ≤ 8 * q.length) (hq : q.length ≤ 100000000) :
    CallOk Try.prog 132 [.ptr i 0 0] H (rvU (tkU q n a)) (H.set i (rR j v n (tkU q n a).at)) := by
  have hself := set_self hA
  have lf := rleft_ref i j v q n a H hA hB ha (by omega)
  have hrl : (bs (zb (bl q))).length = 8 * q.length := by rw [length_bs, zb_len, bl_len]
  refine CallOk.body (F0 := [(0, .ptr i 0 0)]) Try.func132 rfl Try.ntmps132 Try.results132 rfl (by kernel_rfl) rfl ?_
  (repeat refine PW.seq ?_); refine PW.rg rfl fun K hK => ?_; simp (maxSteps := 3000000) (disch := omega) only [go_sem, ↓reduceIte, reduceCtorEq, pappend, plen]; refine hK _ _ ?_; clear hK K
  (repeat refine PW.seq ?_); refine PW.rg rfl fun K hK => ?_; simp (maxSteps := 3000000) (disch := omega) only [go_sem, ↓reduceIte, reduceCtorEq, pappend, plen]; refine hK _ _ ?_; clear hK K
  (repeat refine PW.seq ?_); refine PW.block (PW.loop ?_)
  suffices hl : ∀ k, k ≤ 15 → zrs q n 16 a = k + zrs q n (16 - k) (a + k) → a + k ≤ n → PL Try.prog _ _ [(0, .ptr i 0 0), (4, .int .i64 (k : Int))] H _ by
    exact PL.at [0, 4] (hl 0 (by omega) (by simp) (by omega)) rfl rfl
  intro k hk hz hkn
  induction hd : 16 - k using Nat.strongRecOn generalizing k with
  | _ d ih =>
    subst hd
    have e1 : (a : Int) + (k : Int) = ((a + k : Nat) : Int) := by omega
    have hub := ubit_lt q (a + k)
    refine PL.round ?_
    by_cases h1 : a + k < n ∧ ubit q (a + k) = 0
    · have d1 : decide ((k : Int) < ((n - a : Nat) : Int)) = true := decide_eq_true (by omega)
      have hg := bl_get q (a + k) (by omega)
      rw [h1.2] at hg
      (repeat refine PW.seq ?_); refine PW.draw mix (by kernel_rfl) fun K hK => ?_; simp (maxSteps := 3000000) (disch := omega) only [go_sem, ↓reduceIte, reduceCtorEq, pappend, plen]
      refine VCy.call (lf) rfl ?_; simp (maxSteps := 3000000) (disch := omega) only [go_sem, ↓reduceIte, reduceCtorEq, pappend, plen, d1, hA, hB, rR, rB, e1, hrl, hg]; refine hK _ _ ?_; clear hK K
      (repeat refine PW.seq ?_); refine PW.cond (t := _) rfl (fun h => ?_) (fun h => ?_)
      rotate_left
      · cases h
      refine PW.skip ?_; (repeat refine PW.seq ?_); refine PW.block ?_
      (repeat refine PW.seq ?_); refine PW.rg rfl fun K hK => ?_; simp (maxSteps := 3000000) (disch := omega) only [go_sem, ↓reduceIte, reduceCtorEq, pappend, plen]; refine hK _ _ ?_; clear hK K
      have hzs : zrs q n (16 - k) (a + k) = zrs q n (16 - (k + 1)) (a + (k + 1)) + 1 := by
        rw [show 16 - k = (16 - (k + 1)) + 1 by omega, zrs_step h1.1 h1.2]; rfl
      by_cases h15 : k = 15
      · have hr : tkU q n a = .er 2 a := by
          subst h15
          unfold tkU; rw [if_pos (by rw [hz, hzs]; rfl)]
        have d2 : ((k : Int) + 1 == 16) = true := by simp [h15]
        (repeat refine PW.seq ?_); refine PW.rg rfl fun K hK => ?_; simp (maxSteps := 3000000) (disch := omega) only [go_sem, ↓reduceIte, reduceCtorEq, pappend, plen, d2]; refine hK _ _ ?_; clear hK K
        (repeat refine PW.seq ?_); refine PW.cond (t := _) rfl (fun h => ?_) (fun h => ?_)
        rotate_left
        · cases h
        (repeat refine PW.seq ?_); refine PW.rg rfl fun K hK => ?_; simp (maxSteps := 3000000) (disch := omega) only [go_sem, ↓reduceIte, reduceCtorEq, pappend, plen]; refine hK _ _ ?_; clear hK K
        rw [hr]
        show PW _ _ _ _ H _
        rw [← hself]
        exact PW.ret ⟨_, rfl, .inl ⟨rfl, by rw [hself]; exact hself.symm⟩⟩
      · have d2 : ((k : Int) + 1 == 16) = false := by
          rw [beq_eq_false_iff_ne]; omega
        (repeat refine PW.seq ?_); refine PW.rg rfl fun K hK => ?_; simp (maxSteps := 3000000) (disch := omega) only [go_sem, ↓reduceIte, reduceCtorEq, pappend, plen, d2]; refine hK _ _ ?_; clear hK K
        (repeat refine PW.seq ?_); refine PW.cond (t := _) rfl (fun h => ?_) (fun h => ?_)
        · cases h
        refine PW.skip ?_
        exact PL.at [0, 4] (ih (16 - (k + 1)) (by omega) (k + 1) (by omega) (by omega) (by omega) rfl) (by simp [kp, slot, Nat.beq]) rfl
    have hz0 : zrs q n (16 - k) (a + k) = 0 := by
      by_cases h2 : a + k < n
      · exact zrs_one (by omega)
      · exact zrs_end (by omega)
    rw [hz0, Nat.add_zero] at hz
    suffices hrest : PW Try.prog _ _ [(0, .ptr i 0 0), (4, .int .i64 (k : Int)), (25, .bool false)] H _ by
      by_cases h2 : a + k < n
      · have d1 : decide ((k : Int) < ((n - a : Nat) : Int)) = true := decide_eq_true (by omega)
        have hg := bl_get q (a + k) (by omega)
        rw [show ubit q (a + k) = 1 by omega] at hg
        (repeat refine PW.seq ?_); refine PW.draw mix (by kernel_rfl) fun K hK => ?_; simp (maxSteps := 3000000) (disch := omega) only [go_sem, ↓reduceIte, reduceCtorEq, pappend, plen]
        refine VCy.call (lf) rfl ?_; simp (maxSteps := 3000000) (disch := omega) only [go_sem, ↓reduceIte, reduceCtorEq, pappend, plen, d1, hA, hB, rR, rB, e1, hrl, hg]; refine hK _ _ ?_; clear hK K
        exact PW.at [0, 4, 25] hrest rfl rfl
      · have d1 : decide ((k : Int) < ((n - a : Nat) : Int)) = false := decide_eq_false (by omega)
        (repeat refine PW.seq ?_); refine PW.draw mix (by kernel_rfl) fun K hK => ?_; simp (maxSteps := 3000000) (disch := omega) only [go_sem, ↓reduceIte, reduceCtorEq, pappend, plen]
        refine VCy.call (lf) rfl ?_; simp (maxSteps := 3000000) (disch := omega) only [go_sem, ↓reduceIte, reduceCtorEq, pappend, plen, d1]; refine hK _ _ ?_; clear hK K
        exact PW.at [0, 4, 25] hrest rfl rfl
    (repeat refine PW.seq ?_); refine PW.cond (t := _) rfl (fun h => ?_) (fun h => ?_)
    · cases h
    refine PW.exit ?_
    by_cases h3 : n - a < 2 * k + 1
    · have hr : tkU q n a = .er 3 a := by
        unfold tkU; rw [if_neg (by omega), if_pos (by omega)]
      have d3 : decide (((n - a : Nat) : Int) < 2 * (k : Int) + 1) = true := decide_eq_true (by omega)
      (repeat refine PW.seq ?_); refine PW.rg rfl fun K hK => ?_; simp (maxSteps := 3000000) (disch := omega) only [go_sem, ↓reduceIte, reduceCtorEq, pappend, plen, d3]; refine VCx.call (lf) rfl ?_; simp (maxSteps := 3000000) (disch := omega) only [go_sem, ↓reduceIte, reduceCtorEq, pappend, plen, d3]; refine hK _ _ ?_; clear hK K
      (repeat refine PW.seq ?_); refine PW.cond (t := _) rfl (fun h => ?_) (fun h => ?_)
      rotate_left
      · cases h
      (repeat refine PW.seq ?_); refine PW.rg rfl fun K hK => ?_; simp (maxSteps := 3000000) (disch := omega) only [go_sem, ↓reduceIte, reduceCtorEq, pappend, plen]; refine hK _ _ ?_; clear hK K
      rw [hr]
      exact PW.ret ⟨_, rfl, .inl ⟨rfl, hself.symm⟩⟩
    · have hr : tkU q n a = .ok (2 ^ k + vl q (a + k + 1) k - 1) (a + (2 * k + 1)) := by
        unfold tkU; rw [if_neg (by omega), if_neg (by omega), hz]
      have d3 : decide (((n - a : Nat) : Int) < 2 * (k : Int) + 1) = false := decide_eq_false (by omega)
      have hvv := tkU_vl q n a (by omega) (by omega)
      rw [hz] at hvv
      have tk := rtake_ref i j v q n a (2 * k + 1) H hA hB hne (by omega) hn hq (by omega)
      rw [hvv] at tk
      have hvl := vl_lt q (a + k + 1) k
      have hpw : 2 ^ k ≤ 2 ^ 15 := Nat.pow_le_pow_right (by omega) hk
      have hp0 : 0 < 2 ^ k := Nat.pow_pos (by omega)
      have e4 : (2 : Int) * (k : Int) + 1 = ((2 * k + 1 : Nat) : Int) := by omega
      rw [hr]
      simp only [rvU, Rr.at]
      have hw1 : 1 ≤ 2 ^ k + vl q (a + k + 1) k ∧ 2 ^ k + vl q (a + k + 1) k ≤ 65536 := by omega
      generalize 2 ^ k + vl q (a + k + 1) k = w at *
      have e5 : (w : Int) - 1 = ((w - 1 : Nat) : Int) := by omega
      (repeat refine PW.seq ?_); refine PW.rg rfl fun K hK => ?_; simp (maxSteps := 3000000) (disch := omega) only [go_sem, ↓reduceIte, reduceCtorEq, pappend, plen, d3]; refine VCx.call (lf) rfl ?_; simp (maxSteps := 3000000) (disch := omega) only [go_sem, ↓reduceIte, reduceCtorEq, pappend, plen, d3]; refine hK _ _ ?_; clear hK K
      (repeat refine PW.seq ?_); refine PW.cond (t := _) rfl (fun h => ?_) (fun h => ?_)
      · cases h
      refine PW.skip ?_
      (repeat refine PW.seq ?_); refine PW.rg rfl fun K hK => ?_; simp (maxSteps := 3000000) (disch := omega) only [go_sem, ↓reduceIte, reduceCtorEq, pappend, plen, e4]; refine VCx.call (tk) rfl ?_; simp (maxSteps := 3000000) (disch := omega) only [go_sem, ↓reduceIte, reduceCtorEq, pappend, plen, e4]; refine hK _ _ ?_; clear hK K
      (repeat refine PW.seq ?_); refine PW.rg rfl fun K hK => ?_; simp (maxSteps := 3000000) (disch := omega) only [go_sem, ↓reduceIte, reduceCtorEq, pappend, plen, e5]; refine hK _ _ ?_; clear hK K
      exact PW.ret ⟨_, rfl, Fin.now⟩

theorem tksr_ref (i j v : Nat) (q : List UInt8) (n a : Nat) (H : Heap) (hA : H[i]? = some (rR j v n a)) (hB : H[j]? = some (rB q v)) (hne : i ≠ j) (ha : a ≤ n) (hn : n ≤ 8 * q.length) (hq : q.length ≤ 100000000) :
    CallOk Try.prog 134 [.ptr i 0 0] H (rvS (tkS q n a)) (H.set i (rR j v n (tkS q n a).at)) := by
  have t := tkr_ref i j v q n a H hA hB hne ha hn hq
  unfold tkS
  cases hu : tkU q n a with
  | er e a1 =>
    rw [hu] at t
    have he := (tkU_e hu).2
    simp only [Rr.bind, rvU, rvS, Rr.at] at t ⊢
    generalize H.set i (rR j v n a1) = Hz at *
    refine CallOk.body (F0 := [(0, .ptr i 0 0)]) Try.func134 rfl Try.ntmps134 Try.results134 rfl (by kernel_rfl) rfl ?_
    (repeat refine PW.seq ?_); refine PW.rg rfl fun K hK => ?_; simp (maxSteps := 3000000) (disch := omega) only [go_sem, ↓reduceIte, reduceCtorEq, pappend, plen]; refine hK _ _ ?_; clear hK K
    (repeat refine PW.seq ?_); refine PW.rg rfl fun K hK => ?_; simp (maxSteps := 3000000) (disch := omega) only [go_sem, ↓reduceIte, reduceCtorEq, pappend, plen]; refine VCx.call (t) rfl ?_; simp (maxSteps := 3000000) (disch := omega) only [go_sem, ↓reduceIte, reduceCtorEq, pappend, plen]; refine hK _ _ ?_; clear hK K
    (repeat refine PW.seq ?_); refine PW.rg rfl fun K hK => ?_; simp (maxSteps := 3000000) (disch := omega) only [go_sem, ↓reduceIte, reduceCtorEq, pappend, plen]; refine hK _ _ ?_; clear hK K
    (repeat refine PW.seq ?_); refine PW.cond (t := _) rfl (fun h => ?_) (fun h => ?_)
    · cases h
    refine PW.skip ?_
    (repeat refine PW.seq ?_); refine PW.rg rfl fun K hK => ?_; simp (maxSteps := 3000000) (disch := omega) only [go_sem, ↓reduceIte, reduceCtorEq, pappend, plen]; refine hK _ _ ?_; clear hK K
    exact PW.ret ⟨_, rfl, Fin.now⟩
  | ok w a1 =>
    rw [hu] at t
    have hb := (tkU_b hu ha).1
    simp only [Rr.bind, rvU, rvS, Rr.at] at t ⊢
    generalize H.set i (rR j v n a1) = Hz at *
    have hm : (w : Int).tmod 2 = ((w % 2 : Nat) : Int) := tmodN w 2
    refine CallOk.body (F0 := [(0, .ptr i 0 0)]) Try.func134 rfl Try.ntmps134 Try.results134 rfl (by kernel_rfl) rfl ?_
    (repeat refine PW.seq ?_); refine PW.rg rfl fun K hK => ?_; simp (maxSteps := 3000000) (disch := omega) only [go_sem, ↓reduceIte, reduceCtorEq, pappend, plen]; refine hK _ _ ?_; clear hK K
    (repeat refine PW.seq ?_); refine PW.rg rfl fun K hK => ?_; simp (maxSteps := 3000000) (disch := omega) only [go_sem, ↓reduceIte, reduceCtorEq, pappend, plen]; refine VCx.call (t) rfl ?_; simp (maxSteps := 3000000) (disch := omega) only [go_sem, ↓reduceIte, reduceCtorEq, pappend, plen]; refine hK _ _ ?_; clear hK K
    by_cases h2 : w % 2 = 1
    · have hus : usg w = (((w + 1) / 2 : Nat) : Int) := by unfold usg; rw [if_pos h2]
      rw [hus]
      have e1 : (w : Int) + 1 = ((w + 1 : Nat) : Int) := by omega
      have e2 : (((w + 1 : Nat) : Int)).tdiv 2 = (((w + 1) / 2 : Nat) : Int) := tdivN _ 2
      (repeat refine PW.seq ?_); refine PW.rg rfl fun K hK => ?_; simp (maxSteps := 3000000) (disch := omega) only [go_sem, ↓reduceIte, reduceCtorEq, pappend, plen, hm, h2]; refine hK _ _ ?_; clear hK K
      (repeat refine PW.seq ?_); refine PW.cond (t := _) rfl (fun h => ?_) (fun h => ?_)
      rotate_left
      · cases h
      (repeat refine PW.seq ?_); refine PW.rg rfl fun K hK => ?_; simp (maxSteps := 3000000) (disch := omega) only [go_sem, ↓reduceIte, reduceCtorEq, pappend, plen, e1, e2]; refine hK _ _ ?_; clear hK K
      exact PW.ret ⟨_, rfl, Fin.now⟩
    · have h3 : w % 2 = 0 := by omega
      have hus : usg w = -((w / 2 : Nat) : Int) := by unfold usg; rw [if_neg h2]
      rw [hus]
      have e2 : (w : Int).tdiv 2 = ((w / 2 : Nat) : Int) := tdivN _ 2
      (repeat refine PW.seq ?_); refine PW.rg rfl fun K hK => ?_; simp (maxSteps := 3000000) (disch := omega) only [go_sem, ↓reduceIte, reduceCtorEq, pappend, plen, hm, h3]; refine hK _ _ ?_; clear hK K
      (repeat refine PW.seq ?_); refine PW.cond (t := _) rfl (fun h => ?_) (fun h => ?_)
      · cases h
      refine PW.skip ?_
      (repeat refine PW.seq ?_); refine PW.rg rfl fun K hK => ?_; simp (maxSteps := 3000000) (disch := omega) only [go_sem, ↓reduceIte, reduceCtorEq, pappend, plen, Int.zero_sub, e2]; refine hK _ _ ?_; clear hK K
      exact PW.ret ⟨_, rfl, Fin.now⟩

end Go.Proofs.Ytcabpncdgagihaa.Sc

namespace Go.Proofs.Ytcabpncdgagihaa.Sc
set_option linter.all false
set_option linter.unusedVariables false
set_option linter.unusedSimpArgs false
open Pm Ty Go.RowKit

theorem rR_sc (j v n a k : Nat) (hj : j < k) : ∀ x ∈ (rR j v n a).cells, Scoped k x := fun x hx => by
  simp only [rR, List.mem_cons, List.not_mem_nil, or_false] at hx
  rcases hx with rfl | rfl
  · exact .msl hj
  · exact .int _ _
theorem hsc_rR (H : Heap) (i j v n a : Nat) (hj : j < H.length) (h : HSc H) : HSc (H.set i (rR j v n a)) := HSc.set h (rR_sc _ _ _ _ _ hj)
/-- What the reference's Take has in memory. -/
def rrH (H : Heap) (i j v n a : Nat) (l l' : List Int) : Heap := H.set i (rR j v n a) ++ [⟨46, 0, is l⟩, ⟨46, 0, is l'⟩]
section
variable (H : Heap) (i j v n a : Nat) (l l' : List Int)
theorem rrH_i (hi : i < H.length) : (rrH H i j v n a l l')[i]? = some (rR j v n a) := by
  unfold rrH; rw [List.getElem?_append_left (by simpa using hi)]; simp [hi]
theorem rrH_j {B : Blk} (hj : H[j]? = some B) (hne : i ≠ j) : (rrH H i j v n a l l')[j]? = some B := by
  unfold rrH; rw [List.getElem?_append_left (by simpa using (List.getElem?_eq_some_iff.1 hj).1), List.getElem?_set_ne hne]; exact hj
theorem rrH_si (hi : i < H.length) (a' : Nat) : (rrH H i j v n a l l').set i (rR j v n a') = rrH H i j v n a' l l' := by
  unfold rrH; rw [List.set_append_left _ _ (by simpa using hi), List.set_set]
theorem rrH_0 : (rrH H i j v n a l l')[H.length]? = some ⟨46, 0, is l⟩ := by
  have := hp0 (H.set i (rR j v n a)) [⟨46, 0, is l'⟩] ⟨46, 0, is l⟩
  rwa [List.length_set] at this
theorem rrH_1 : (rrH H i j v n a l l')[H.length + 1]? = some ⟨46, 0, is l'⟩ := by
  have := hp1 (H.set i (rR j v n a)) [] ⟨46, 0, is l⟩ ⟨46, 0, is l'⟩
  rwa [List.length_set] at this
theorem rrH_s0 (m : List Int) : (rrH H i j v n a l l').set H.length ⟨46, 0, is m⟩ = rrH H i j v n a m l' := by
  have := hs0 (H.set i (rR j v n a)) [⟨46, 0, is l'⟩] ⟨46, 0, is l⟩ ⟨46, 0, is m⟩
  rwa [List.length_set] at this
theorem rrH_s1 (m : List Int) : (rrH H i j v n a l l').set (H.length + 1) ⟨46, 0, is m⟩ = rrH H i j v n a l m := by
  have := hs1 (H.set i (rR j v n a)) [] ⟨46, 0, is l⟩ ⟨46, 0, is l'⟩ ⟨46, 0, is m⟩
  rwa [List.length_set] at this
end

set_option maxHeartbeats 1000000 in
theorem btake_ref (i j v : Nat) (q : List UInt8) (n a fr : Nat) (H : Heap) (hA : H[i]? = some (rR j v n a)) (hB : H[j]? = some (rB q v)) (hne : i ≠ j) (ha : a ≤ n) (hn : n ≤ 8 * q.length) (hq : q.length ≤ 100000000) (hfr : fr ≤ 1) :
    CallOk Try.prog 135 [.ptr i 0 0, .int .i64 (fr : Int)] H (rvB (tkBl q n fr a)) (H.set i (rR j v n (tkBl q n fr a).at)) := by
  have hi := (List.getElem?_eq_some_iff.1 hA).1
  have hj := (List.getElem?_eq_some_iff.1 hB).1
  have hself := set_self hA
  have al := fun x K => win_ref x K
  have hz : (is z64).length = 64 := by rw [is_len]; simp [z64]
  have hzc : is z64 = List.replicate 64 (.int .i64 0) := by simp [is, z64]
  have htz : List.take 64 (is z64) = is z64 := List.take_of_length_le (by omega)
  have hdz : List.drop 64 (is z64) = [] := List.drop_of_length_le (by omega)
  have hcz := is_cell z64
  generalize hres : tkBl q n fr a = res
  refine CallOk.body (F0 := [(0, .ptr i 0 0), (1, .int .i64 (fr : Int))]) Try.func135 rfl Try.ntmps135 Try.results135 rfl (by kernel_rfl) rfl ?_
  (repeat refine PW.seq ?_); refine PW.rg rfl fun K hK => ?_; simp (maxSteps := 3000000) (disch := omega) only [go_sem, ↓reduceIte, reduceCtorEq, pappend, plen]; refine hK _ _ ?_; clear hK K
  (repeat refine PW.seq ?_); refine PW.rg rfl fun K hK => ?_; simp (maxSteps := 3000000) (disch := omega) only [go_sem, ↓reduceIte, reduceCtorEq, pappend, plen]; refine hK _ _ ?_; clear hK K
  refine PW.to [0, 1, 4, 6] [(0, .ptr i 0 0), (1, .int .i64 (fr : Int)), (4, .ptr H.length 0 0), (6, .ptr (H.length + 1) 0 0)] (rrH H i j v n a z64 z64) ?_ ?_
  · have h2 : fr = 0 ∨ fr = 1 := by omega
    rcases h2 with rfl | rfl
    · (repeat refine PW.seq ?_); refine PW.rg rfl fun K hK => ?_; simp (maxSteps := 3000000) (disch := omega) only [go_sem, ↓reduceIte, reduceCtorEq, pappend, plen]; refine hK _ _ ?_; clear hK K
      (repeat refine PW.seq ?_); refine PW.cond (t := _) rfl (fun h => ?_) (fun h => ?_)
      · cases h
      exact PW.skip ⟨rfl, by unfold rrH; rw [hself]; rfl⟩
    · (repeat refine PW.seq ?_); refine PW.rg rfl fun K hK => ?_; simp (maxSteps := 3000000) (disch := omega) only [go_sem, ↓reduceIte, reduceCtorEq, pappend, plen]; refine hK _ _ ?_; clear hK K
      (repeat refine PW.seq ?_); refine PW.cond (t := _) rfl (fun h => ?_) (fun h => ?_)
      · cases h
      exact PW.skip ⟨rfl, by unfold rrH; rw [hself]; rfl⟩
  (repeat refine PW.seq ?_); refine PW.rg rfl fun K hK => ?_; simp (maxSteps := 3000000) (disch := omega) only [go_sem, ↓reduceIte, reduceCtorEq, pappend, plen]; refine hK _ _ ?_; clear hK K
  (repeat refine PW.seq ?_); refine PW.block (PW.loop ?_)
  suffices hl : ∀ (f at' a : Nat) (l : List Int), at' ≤ 64 → 64 - at' < f → a ≤ n → l.length = 64 → tkB q n f at' a l = res → PL Try.prog _ _ [(0, .ptr i 0 0), (4, .ptr H.length 0 0), (6, .ptr (H.length + 1) 0 0), (7, .int .i64 (at' : Int))] (rrH H i j v n a z64 l) _ by
    exact PL.at [0, 4, 6, 7] (hl 65 fr a z64 (by omega) (by omega) ha (by simp [z64]) hres) rfl rfl
  clear hself hA ha hres
  intro f
  induction f with
  | zero => intro at' a l h1 h2; omega
  | succ f ih =>
    intro at' a l h1 h2 ha hll hr
    have tu := tkr_ref i j v q n a (rrH H i j v n a z64 l) (rrH_i H i j v n a z64 l hi) (rrH_j H i j v n a z64 l hB hne) hne ha hn hq
    simp only [tkB] at hr
    have hil : (is l).length = 64 := by rw [is_len, hll]
    have htk : List.take 64 (is l) = is l := List.take_of_length_le (by omega)
    have hcel := is_cell l
    have fail : ∀ (e a1 : Nat) (m : List Int), Fin H (rvB (.er e a1)) (H.set i (rR j v n a1)) (.tup [.agg (is z64), .int .i64 ((e : Int) + 1)]) (rrH H i j v n a1 z64 m) := fun e a1 m =>
      Fin.cut rfl (by simp) (hsc_rR _ _ _ _ _ _ hj) (.id (rvB_sc _ (.er e a1)))
    refine PL.round ?_; (repeat refine PW.seq ?_); refine PW.block ?_
    cases hu : tkU q n a with
    | er e1 a1 =>
      rw [hu, Rr.bind_er] at hr
      subst hr
      rw [hu] at tu
      simp only [rvU, Rr.at, rrH_si _ _ _ _ _ _ _ _ hi] at tu
      have d0 : ((e1 : Int) + 1 != 0) = true := by simp; omega
      have he := (tkU_e hu).2
      (repeat refine PW.seq ?_); refine PW.rg rfl fun K hK => ?_; simp (maxSteps := 3000000) (disch := omega) only [go_sem, ↓reduceIte, reduceCtorEq, pappend, plen]; refine VCx.call (tu) rfl ?_; simp (maxSteps := 3000000) (disch := omega) only [go_sem, ↓reduceIte, reduceCtorEq, pappend, plen]; refine hK _ _ ?_; clear hK K
      (repeat refine PW.seq ?_); refine PW.rg rfl fun K hK => ?_; simp (maxSteps := 3000000) (disch := omega) only [go_sem, ↓reduceIte, reduceCtorEq, pappend, plen, d0]; refine hK _ _ ?_; clear hK K
      (repeat refine PW.seq ?_); refine PW.cond (t := _) rfl (fun h => ?_) (fun h => ?_)
      rotate_left
      · cases h
      (repeat refine PW.seq ?_); refine PW.rg rfl fun K hK => ?_; simp (maxSteps := 3000000) (disch := omega) only [go_sem, ↓reduceIte, reduceCtorEq, pappend, plen, rrH_0, hz, ← hzc, hcz, hdz, rrH_s0]; refine hK _ _ ?_; clear hK K
      refine PW.ret ⟨.tup [.agg (is z64), .int .i64 ((e1 : Int) + 1)], by simp (maxSteps := 3000000) (disch := omega) only [go_sem, ↓reduceIte, reduceCtorEq, pappend, plen, presults, presult, List.mapM_cons, List.mapM_nil, Option.pure_def, Option.bind_eq_bind, Option.bind_some, Array.toList, rrH_0, hz, htz], ?_⟩
      exact fail e1 a1 l
    | ok w1 a1 =>
      have b1 := tkU_b hu ha
      rw [hu, Rr.bind_ok] at hr
      rw [hu] at tu
      simp only [rvU, Rr.at, rrH_si _ _ _ _ _ _ _ _ hi] at tu
      (repeat refine PW.seq ?_); refine PW.rg rfl fun K hK => ?_; simp (maxSteps := 3000000) (disch := omega) only [go_sem, ↓reduceIte, reduceCtorEq, pappend, plen]; refine VCx.call (tu) rfl ?_; simp (maxSteps := 3000000) (disch := omega) only [go_sem, ↓reduceIte, reduceCtorEq, pappend, plen]; refine hK _ _ ?_; clear hK K
      (repeat refine PW.seq ?_); refine PW.rg rfl fun K hK => ?_; simp (maxSteps := 3000000) (disch := omega) only [go_sem, ↓reduceIte, reduceCtorEq, pappend, plen]; refine hK _ _ ?_; clear hK K
      (repeat refine PW.seq ?_); refine PW.cond (t := _) rfl (fun h => ?_) (fun h => ?_)
      · cases h
      refine PW.skip ?_
      by_cases hv0 : w1 = 0
      · rw [if_pos hv0] at hr
        subst hr
        have d1 : ((w1 : Int) == 0) = true := by simp [hv0]
        (repeat refine PW.seq ?_); refine PW.rg rfl fun K hK => ?_; simp (maxSteps := 3000000) (disch := omega) only [go_sem, ↓reduceIte, reduceCtorEq, pappend, plen, d1]; refine hK _ _ ?_; clear hK K
        (repeat refine PW.seq ?_); refine PW.cond (t := _) rfl (fun h => ?_) (fun h => ?_)
        rotate_left
        · cases h
        (repeat refine PW.seq ?_); refine PW.rg rfl fun K hK => ?_; simp (maxSteps := 3000000) (disch := omega) only [go_sem, ↓reduceIte, reduceCtorEq, pappend, plen, rrH_1, rrH_0, hil, hz, htk, hcel, hdz, rrH_s0]; refine hK _ _ ?_; clear hK K
        refine PW.ret ⟨.tup [.agg (is l), .int .i64 0], by simp (maxSteps := 3000000) (disch := omega) only [go_sem, ↓reduceIte, reduceCtorEq, pappend, plen, presults, presult, List.mapM_cons, List.mapM_nil, Option.pure_def, Option.bind_eq_bind, Option.bind_some, Array.toList, rrH_0, hil, htk], ?_⟩
        exact Fin.cut rfl (by simp) (hsc_rR _ _ _ _ _ _ hj) (.id (rvB_sc _ (.ok l a1)))
      rw [if_neg hv0] at hr
      have d1 : ((w1 : Int) == 0) = false := by rw [beq_eq_false_iff_ne]; omega
      (repeat refine PW.seq ?_); refine PW.rg rfl fun K hK => ?_; simp (maxSteps := 3000000) (disch := omega) only [go_sem, ↓reduceIte, reduceCtorEq, pappend, plen, d1]; refine hK _ _ ?_; clear hK K
      (repeat refine PW.seq ?_); refine PW.cond (t := _) rfl (fun h => ?_) (fun h => ?_)
      · cases h
      refine PW.skip ?_
      have e1 : (at' : Int) + (w1 : Int) - 1 = ((at' + w1 - 1 : Nat) : Int) := by omega
      (repeat refine PW.seq ?_); refine PW.rg rfl fun K hK => ?_; simp (maxSteps := 3000000) (disch := omega) only [go_sem, ↓reduceIte, reduceCtorEq, pappend, plen, e1]; refine hK _ _ ?_; clear hK K
      by_cases h64 : 64 < at' + w1
      · rw [if_pos h64] at hr
        subst hr
        have d2 : decide ((63 : Int) < ((at' + w1 - 1 : Nat) : Int)) = true := decide_eq_true (by omega)
        (repeat refine PW.seq ?_); refine PW.rg rfl fun K hK => ?_; simp (maxSteps := 3000000) (disch := omega) only [go_sem, ↓reduceIte, reduceCtorEq, pappend, plen, d2]; refine hK _ _ ?_; clear hK K
        (repeat refine PW.seq ?_); refine PW.cond (t := _) rfl (fun h => ?_) (fun h => ?_)
        rotate_left
        · cases h
        (repeat refine PW.seq ?_); refine PW.rg rfl fun K hK => ?_; simp (maxSteps := 3000000) (disch := omega) only [go_sem, ↓reduceIte, reduceCtorEq, pappend, plen, rrH_0, hz, ← hzc, hcz, hdz, rrH_s0]; refine hK _ _ ?_; clear hK K
        refine PW.ret ⟨.tup [.agg (is z64), .int .i64 3], by simp (maxSteps := 3000000) (disch := omega) only [go_sem, ↓reduceIte, reduceCtorEq, pappend, plen, presults, presult, List.mapM_cons, List.mapM_nil, Option.pure_def, Option.bind_eq_bind, Option.bind_some, Array.toList, rrH_0, hz, htz], ?_⟩
        exact fail 2 a1 l
      rw [if_neg h64] at hr
      have d2 : decide ((63 : Int) < ((at' + w1 - 1 : Nat) : Int)) = false := decide_eq_false (by omega)
      (repeat refine PW.seq ?_); refine PW.rg rfl fun K hK => ?_; simp (maxSteps := 3000000) (disch := omega) only [go_sem, ↓reduceIte, reduceCtorEq, pappend, plen, d2]; refine hK _ _ ?_; clear hK K
      (repeat refine PW.seq ?_); refine PW.cond (t := _) rfl (fun h => ?_) (fun h => ?_)
      · cases h
      refine PW.skip ?_
      have ts := tksr_ref i j v q n a1 (rrH H i j v n a1 z64 l) (rrH_i H i j v n a1 z64 l hi) (rrH_j H i j v n a1 z64 l hB hne) hne b1.2.2 hn hq
      cases hw : tkS q n a1 with
      | er e2 a2 =>
        rw [hw, Rr.bind_er] at hr
        subst hr
        rw [hw] at ts
        have he := (tkS_e hw).2
        simp only [rvS, Rr.at, rrH_si _ _ _ _ _ _ _ _ hi] at ts
        have d0 : ((e2 : Int) + 1 != 0) = true := by simp; omega
        (repeat refine PW.seq ?_); refine PW.rg rfl fun K hK => ?_; simp (maxSteps := 3000000) (disch := omega) only [go_sem, ↓reduceIte, reduceCtorEq, pappend, plen]; refine VCx.call (ts) rfl ?_; simp (maxSteps := 3000000) (disch := omega) only [go_sem, ↓reduceIte, reduceCtorEq, pappend, plen]; refine hK _ _ ?_; clear hK K
        (repeat refine PW.seq ?_); refine PW.rg rfl fun K hK => ?_; simp (maxSteps := 3000000) (disch := omega) only [go_sem, ↓reduceIte, reduceCtorEq, pappend, plen, d0]; refine hK _ _ ?_; clear hK K
        (repeat refine PW.seq ?_); refine PW.cond (t := _) rfl (fun h => ?_) (fun h => ?_)
        rotate_left
        · cases h
        (repeat refine PW.seq ?_); refine PW.rg rfl fun K hK => ?_; simp (maxSteps := 3000000) (disch := omega) only [go_sem, ↓reduceIte, reduceCtorEq, pappend, plen, rrH_0, hz, ← hzc, hcz, hdz, rrH_s0]; refine hK _ _ ?_; clear hK K
        refine PW.ret ⟨.tup [.agg (is z64), .int .i64 ((e2 : Int) + 1)], by simp (maxSteps := 3000000) (disch := omega) only [go_sem, ↓reduceIte, reduceCtorEq, pappend, plen, presults, presult, List.mapM_cons, List.mapM_nil, Option.pure_def, Option.bind_eq_bind, Option.bind_some, Array.toList, rrH_0, hz, htz], ?_⟩
        exact fail e2 a2 l
      | ok w a2 =>
        have b2 := tkS_b hw b1.2.2
        rw [hw, Rr.bind_ok] at hr
        rw [hw] at ts
        simp only [rvS, Rr.at, rrH_si _ _ _ _ _ _ _ _ hi] at ts
        (repeat refine PW.seq ?_); refine PW.rg rfl fun K hK => ?_; simp (maxSteps := 3000000) (disch := omega) only [go_sem, ↓reduceIte, reduceCtorEq, pappend, plen]; refine VCx.call (ts) rfl ?_; simp (maxSteps := 3000000) (disch := omega) only [go_sem, ↓reduceIte, reduceCtorEq, pappend, plen]; refine hK _ _ ?_; clear hK K
        (repeat refine PW.seq ?_); refine PW.rg rfl fun K hK => ?_; simp (maxSteps := 3000000) (disch := omega) only [go_sem, ↓reduceIte, reduceCtorEq, pappend, plen]; refine hK _ _ ?_; clear hK K
        (repeat refine PW.seq ?_); refine PW.cond (t := _) rfl (fun h => ?_) (fun h => ?_)
        · cases h
        refine PW.skip ?_
        by_cases hw0 : w = 0
        · rw [if_pos hw0] at hr
          subst hr
          have d3 : (w == 0) = true := by simp [hw0]
          (repeat refine PW.seq ?_); refine PW.rg rfl fun K hK => ?_; simp (maxSteps := 3000000) (disch := omega) only [go_sem, ↓reduceIte, reduceCtorEq, pappend, plen, d3]; refine hK _ _ ?_; clear hK K
          (repeat refine PW.seq ?_); refine PW.cond (t := _) rfl (fun h => ?_) (fun h => ?_)
          rotate_left
          · cases h
          (repeat refine PW.seq ?_); refine PW.rg rfl fun K hK => ?_; simp (maxSteps := 3000000) (disch := omega) only [go_sem, ↓reduceIte, reduceCtorEq, pappend, plen, rrH_0, hz, ← hzc, hcz, hdz, rrH_s0]; refine hK _ _ ?_; clear hK K
          refine PW.ret ⟨.tup [.agg (is z64), .int .i64 3], by simp (maxSteps := 3000000) (disch := omega) only [go_sem, ↓reduceIte, reduceCtorEq, pappend, plen, presults, presult, List.mapM_cons, List.mapM_nil, Option.pure_def, Option.bind_eq_bind, Option.bind_some, Array.toList, rrH_0, hz, htz], ?_⟩
          exact fail 2 a2 l
        · rw [if_neg hw0] at hr
          have d3 : (w == 0) = false := by simp [hw0]
          have alw := fun K => al w K
          cases hwn : win w 4095 with
          | false =>
            rw [hwn, if_pos rfl] at hr
            rw [hwn] at alw
            subst hr
            (repeat refine PW.seq ?_); refine PW.rg rfl fun K hK => ?_; simp (maxSteps := 3000000) (disch := omega) only [go_sem, ↓reduceIte, reduceCtorEq, pappend, plen, d3]
            refine VCx.call (alw _) rfl ?_; simp (maxSteps := 3000000) (disch := omega) only [go_sem, ↓reduceIte, reduceCtorEq, pappend, plen]; refine hK _ _ ?_; clear hK K
            (repeat refine PW.seq ?_); refine PW.cond (t := _) rfl (fun h => ?_) (fun h => ?_)
            rotate_left
            · cases h
            (repeat refine PW.seq ?_); refine PW.rg rfl fun K hK => ?_; simp (maxSteps := 3000000) (disch := omega) only [go_sem, ↓reduceIte, reduceCtorEq, pappend, plen, rrH_0, hz, ← hzc, hcz, hdz, rrH_s0]; refine hK _ _ ?_; clear hK K
            refine PW.ret ⟨.tup [.agg (is z64), .int .i64 3], by simp (maxSteps := 3000000) (disch := omega) only [go_sem, ↓reduceIte, reduceCtorEq, pappend, plen, presults, presult, List.mapM_cons, List.mapM_nil, Option.pure_def, Option.bind_eq_bind, Option.bind_some, Array.toList, rrH_0, hz, htz], ?_⟩
            exact fail 2 a2 l
          | true =>
            rw [hwn, if_neg (by decide)] at hr
            rw [hwn] at alw
            (repeat refine PW.seq ?_); refine PW.rg rfl fun K hK => ?_; simp (maxSteps := 3000000) (disch := omega) only [go_sem, ↓reduceIte, reduceCtorEq, pappend, plen, d3]
            refine VCx.call (alw _) rfl ?_; simp (maxSteps := 3000000) (disch := omega) only [go_sem, ↓reduceIte, reduceCtorEq, pappend, plen]; refine hK _ _ ?_; clear hK K
            (repeat refine PW.seq ?_); refine PW.cond (t := _) rfl (fun h => ?_) (fun h => ?_)
            · cases h
            refine PW.skip ?_
            (repeat refine PW.seq ?_); refine PW.rg rfl fun K hK => ?_; simp (maxSteps := 3000000) (disch := omega) only [go_sem, ↓reduceIte, reduceCtorEq, pappend, plen, rrH_1, hil, is_set, rrH_s1]; refine hK _ _ ?_; clear hK K
            (repeat refine PW.seq ?_); refine PW.rg rfl fun K hK => ?_; simp (maxSteps := 3000000) (disch := omega) only [go_sem, ↓reduceIte, reduceCtorEq, pappend, plen]; refine hK _ _ ?_; clear hK K
            exact PL.at [0, 4, 6, 7] (ih (at' + w1) a2 _ (by omega) (by omega) b2.2.2 (by rw [List.length_set, hll]) hr) (by simp [kp, slot, Nat.beq]; omega) rfl

end Go.Proofs.Ytcabpncdgagihaa.Sc

namespace Go.Proofs.Ytcabpncdgagihaa.Sc
set_option linter.all false
set_option linter.unusedVariables false
set_option linter.unusedSimpArgs false
open Pm Ty Go.RowKit

end Go.Proofs.Ytcabpncdgagihaa.Sc

namespace Go.Proofs.Ytcabpncdgagihaa.Sc
set_option linter.all false
set_option linter.unusedVariables false
set_option linter.unusedSimpArgs false
open Pm Ty Go.RowKit

theorem apn (H K : Heap) (n : Nat) : (H ++ K)[H.length + n]? = K[n]? := by
  rw [List.getElem?_append_right (by omega), show H.length + n - H.length = n by omega]
theorem aps (H K : Heap) (n : Nat) (X : Blk) : (H ++ K).set (H.length + n) X = H ++ K.set n X := by
  rw [List.set_append_right _ _ (by omega), show H.length + n - H.length = n by omega]
theorem flat_len {α : Type} (enc : α → List PV) (N : Nat) : ∀ (l : List α), (∀ x ∈ l, (enc x).length = N) → (l.flatMap enc).length = l.length * N
  | [], _ => by simp
  | a :: r, h => by
    rw [List.flatMap_cons, List.length_append, flat_len enc N r (fun x hx => h x (List.mem_cons_of_mem _ hx)), h a (List.mem_cons_self ..), List.length_cons, Nat.add_mul, Nat.one_mul, Nat.add_comm]
theorem flat_at {α : Type} (enc : α → List PV) (N : Nat) : ∀ (l : List α) (k : Nat) (hk : k < l.length), (∀ x ∈ l, (enc x).length = N) → List.take N (List.drop (k * N) (l.flatMap enc)) = enc l[k]
  | [], k, hk, _ => by simp at hk
  | a :: r, 0, _, h => by
    rw [Nat.zero_mul, List.drop_zero, List.flatMap_cons]
    exact List.take_left' (h a (List.mem_cons_self ..))
  | a :: r, k + 1, hk, h => by
    have e : (k + 1) * N = (enc a).length + k * N := by rw [h a (List.mem_cons_self ..), Nat.add_mul, Nat.one_mul, Nat.add_comm]
    rw [List.flatMap_cons, e, ← List.drop_drop, List.drop_left]
    exact flat_at enc N r k (by simpa using hk) (fun x hx => h x (List.mem_cons_of_mem _ hx))
theorem mbl_sc (l : List Mb) (n : Nat) : ∀ x ∈ l.flatMap mbc, Scoped n x := fun x hx => by
  obtain ⟨m, _, hx⟩ := List.mem_flatMap.1 hx
  simp only [mbc, List.mem_cons] at hx
  rcases hx with rfl | rfl | rfl | rfl | rfl | rfl | rfl | rfl | rfl | rfl | rfl | rfl | rfl | rfl | rfl | rfl | rfl | rfl | rfl | rfl | rfl | rfl | rfl | rfl | hx
  all_goals first | exact .int _ _ | exact .bool _ | exact is_scoped _ _ _ hx
theorem hscW {H K : Heap} (hK : ∀ b ∈ K, ∀ x ∈ b.cells, Scoped (H.length + K.length) x) (h : HSc H) : HSc (H ++ K) := fun id k hk x hx => by
  rw [List.length_append]
  rw [List.getElem?_append] at hk
  split at hk
  · exact (h id k hk x hx).mono (by omega)
  · exact hK k (List.mem_of_getElem? hk) x hx

end Go.Proofs.Ytcabpncdgagihaa.Sc

namespace Go.Proofs.Ytcabpncdgagihaa.Sc
set_option linter.all false
set_option linter.unusedVariables false
set_option linter.unusedSimpArgs false
open Pm Ty Go.RowKit

theorem rtake_shr (i j v : Nat) (q : List UInt8) (n a m : Nat) (H : Heap) (hA : H[i]? = some (rR j v n a)) (hB : H[j]? = some (rB q v)) (ha : a ≤ n) (hn : n ≤ 1000000000) (hm : m ≤ 32) (hs : n - a < m) :
    CallOk Try.prog 110 [.ptr i 0 0, .int .i64 (m : Int)] H (.tup [.int .u32 0, .int .i64 4]) H := by
  have hlf := rleft_ref i j v q n a H hA hB ha hn
  have d1 : decide (((n - a : Nat) : Int) < (m : Int)) = true := decide_eq_true (by omega)
  refine CallOk.body (F0 := [(0, .ptr i 0 0), (1, .int .i64 (m : Int))]) Try.func110 rfl Try.ntmps110 Try.results110 rfl (by kernel_rfl) rfl ?_
  (repeat refine PW.seq ?_); refine PW.rg rfl fun K hK => ?_; simp (maxSteps := 3000000) (disch := omega) only [go_sem, ↓reduceIte, reduceCtorEq, pappend, plen]; refine hK _ _ ?_; clear hK K
  (repeat refine PW.seq ?_); refine PW.rg rfl fun K hK => ?_; simp (maxSteps := 3000000) (disch := omega) only [go_sem, ↓reduceIte, reduceCtorEq, pappend, plen]; refine hK _ _ ?_; clear hK K
  (repeat refine PW.seq ?_); refine PW.cond (t := _) rfl (fun h => ?_) (fun h => ?_)
  · cases h
  refine PW.skip ?_
  (repeat refine PW.seq ?_); refine PW.rg rfl fun K hK => ?_; simp (maxSteps := 3000000) (disch := omega) only [go_sem, ↓reduceIte, reduceCtorEq, pappend, plen, d1]; refine VCx.call (hlf) rfl ?_; simp (maxSteps := 3000000) (disch := omega) only [go_sem, ↓reduceIte, reduceCtorEq, pappend, plen, d1]; refine hK _ _ ?_; clear hK K
  (repeat refine PW.seq ?_); refine PW.cond (t := _) rfl (fun h => ?_) (fun h => ?_)
  rotate_left
  · cases h
  (repeat refine PW.seq ?_); refine PW.rg rfl fun K hK => ?_; simp (maxSteps := 3000000) (disch := omega) only [go_sem, ↓reduceIte, reduceCtorEq, pappend, plen]; refine hK _ _ ?_; clear hK K
  exact PW.ret ⟨_, rfl, Fin.now⟩
theorem bit_ref (i j v : Nat) (q : List UInt8) (n a : Nat) (H : Heap) (hA : H[i]? = some (rR j v n a)) (hB : H[j]? = some (rB q v)) (hne : i ≠ j) (ha : a ≤ n) (hn : n ≤ 8 * q.length) (hq : q.length ≤ 100000000) :
    CallOk Try.prog 133 [.ptr i 0 0] H (rvF (tkF q n a)) (H.set i (rR j v n (tkF q n a).at)) := by
  have hself := set_self hA
  cases hf : tkF q n a with
  | ok b a1 =>
    obtain ⟨rfl, h2, rfl⟩ := tkF_b hf
    have t := rtake_ref i j v q n a 1 _ hA hB hne (by omega) hn hq (by omega)
    rw [show vl q a 1 = ubit q a by simp [vl]] at t
    have e1 : ((ubit q a : Int) == 1) = decide (ubit q a = 1) := by
      rw [Bool.eq_iff_iff]; simp; omega
    simp only [rvF, Rr.at]
    generalize H.set i (rR j v n (a + 1)) = Hz at *
    refine CallOk.body (F0 := [(0, .ptr i 0 0)]) Try.func133 rfl Try.ntmps133 Try.results133 rfl (by kernel_rfl) rfl ?_
    (repeat refine PW.seq ?_); refine PW.rg rfl fun K hK => ?_; simp (maxSteps := 3000000) (disch := omega) only [go_sem, ↓reduceIte, reduceCtorEq, pappend, plen]; refine hK _ _ ?_; clear hK K
    (repeat refine PW.seq ?_); refine PW.rg rfl fun K hK => ?_; simp (maxSteps := 3000000) (disch := omega) only [go_sem, ↓reduceIte, reduceCtorEq, pappend, plen]; refine VCx.call (t) rfl ?_; simp (maxSteps := 3000000) (disch := omega) only [go_sem, ↓reduceIte, reduceCtorEq, pappend, plen]; refine hK _ _ ?_; clear hK K
    (repeat refine PW.seq ?_); refine PW.rg rfl fun K hK => ?_; simp (maxSteps := 3000000) (disch := omega) only [go_sem, ↓reduceIte, reduceCtorEq, pappend, plen, e1]; refine hK _ _ ?_; clear hK K
    exact PW.ret ⟨_, rfl, Fin.now⟩
  | er e a1 =>
    obtain ⟨rfl, rfl, h2⟩ := tkF_e hf
    have t := rtake_shr i j v q n a1 1 _ hA hB (by omega) (by omega) (by omega) (by omega)
    simp only [rvF, Rr.at, hself]
    refine CallOk.body (F0 := [(0, .ptr i 0 0)]) Try.func133 rfl Try.ntmps133 Try.results133 rfl (by kernel_rfl) rfl ?_
    (repeat refine PW.seq ?_); refine PW.rg rfl fun K hK => ?_; simp (maxSteps := 3000000) (disch := omega) only [go_sem, ↓reduceIte, reduceCtorEq, pappend, plen]; refine hK _ _ ?_; clear hK K
    (repeat refine PW.seq ?_); refine PW.rg rfl fun K hK => ?_; simp (maxSteps := 3000000) (disch := omega) only [go_sem, ↓reduceIte, reduceCtorEq, pappend, plen]; refine VCx.call (t) rfl ?_; simp (maxSteps := 3000000) (disch := omega) only [go_sem, ↓reduceIte, reduceCtorEq, pappend, plen]; refine hK _ _ ?_; clear hK K
    (repeat refine PW.seq ?_); refine PW.rg rfl fun K hK => ?_; simp (maxSteps := 3000000) (disch := omega) only [go_sem, ↓reduceIte, reduceCtorEq, pappend, plen]; refine hK _ _ ?_; clear hK K
    exact PW.ret ⟨_, rfl, Fin.now⟩

/-- What the reference's Take has in memory: the reader at place a, and its own blocks. -/
def uG (H : Heap) (i j v n a : Nat) (X : Heap) (B4 B5 : Blk) (K : Heap) : Heap := H.set i (rR j v n a) ++ (X ++ B4 :: B5 :: K)
def mW (m : Mb) : Blk := ⟨49, 1, mbc m⟩
theorem mW_v (m : Mb) : (mW m).ver = 1 := rfl
theorem mW_c (m : Mb) : (mW m).cells = mbc m := rfl
theorem mW_e (m : Mb) : (mW m).e = 49 := rfl
theorem mW_of (m : Mb) : (⟨49, 1, mbc m⟩ : Blk) = mW m := rfl
def sB (s : St) : Blk := ⟨29, 1, stc s⟩
theorem sB_v (s : St) : (sB s).ver = 1 := rfl
theorem sB_c (s : St) : (sB s).cells = stc s := rfl
theorem sB_e (s : St) : (sB s).e = 29 := rfl
theorem sB_of (s : St) : (⟨29, 1, stc s⟩ : Blk) = sB s := rfl
section
variable (H : Heap) (i j v n a : Nat) (X : Heap) (B4 B5 : Blk) (K : Heap)
theorem uG_len (hX : X.length = 4) : (uG H i j v n a X B4 B5 K).length = H.length + 6 + K.length := by simp [uG, hX]; omega
theorem uG_ext (L : Heap) : uG H i j v n a X B4 B5 K ++ L = uG H i j v n a X B4 B5 (K ++ L) := by simp [uG]
theorem uG_i (hi : i < H.length) : (uG H i j v n a X B4 B5 K)[i]? = some (rR j v n a) := by
  unfold uG; rw [List.getElem?_append_left (by simpa using hi)]; simp [hi]
theorem uG_j {B : Blk} (hj : H[j]? = some B) (hne : i ≠ j) : (uG H i j v n a X B4 B5 K)[j]? = some B := by
  unfold uG; rw [List.getElem?_append_left (by simpa using (List.getElem?_eq_some_iff.1 hj).1), List.getElem?_set_ne hne]; exact hj
theorem uG_si (hi : i < H.length) (a' : Nat) : (uG H i j v n a X B4 B5 K).set i (rR j v n a') = uG H i j v n a' X B4 B5 K := by
  unfold uG; rw [List.set_append_left _ _ (by simpa using hi), List.set_set]
theorem uG_4 (hX : X.length = 4) : (uG H i j v n a X B4 B5 K)[H.length + 4]? = some B4 := by
  unfold uG
  rw [List.getElem?_append_right (by simp), List.length_set, show H.length + 4 - H.length = 4 by omega, List.getElem?_append_right (by omega), hX]; rfl
theorem uG_5 (hX : X.length = 4) : (uG H i j v n a X B4 B5 K)[H.length + 5]? = some B5 := by
  unfold uG
  rw [List.getElem?_append_right (by simp), List.length_set, show H.length + 5 - H.length = 5 by omega, List.getElem?_append_right (by omega), hX]; rfl
theorem uG_6 (hX : X.length = 4) (B : Blk) : (uG H i j v n a X B4 B5 (B :: K))[H.length + 6]? = some B := by
  unfold uG
  rw [List.getElem?_append_right (by simp), List.length_set, show H.length + 6 - H.length = 6 by omega, List.getElem?_append_right (by omega), hX]; rfl
theorem uG_s4 (hX : X.length = 4) (B : Blk) : (uG H i j v n a X B4 B5 K).set (H.length + 4) B = uG H i j v n a X B B5 K := by
  unfold uG
  rw [List.set_append_right _ _ (by simp), List.length_set, show H.length + 4 - H.length = 4 by omega, List.set_append_right _ _ (by omega), hX]; rfl
theorem uG_s5 (hX : X.length = 4) (B : Blk) : (uG H i j v n a X B4 B5 K).set (H.length + 5) B = uG H i j v n a X B4 B K := by
  unfold uG
  rw [List.set_append_right _ _ (by simp), List.length_set, show H.length + 5 - H.length = 5 by omega, List.set_append_right _ _ (by omega), hX]; rfl
end
theorem mW_sc (m : Mb) (n : Nat) : ∀ x ∈ (mW m).cells, Scoped n x := fun x hx => mbl_sc [m] n x (by simpa [mW] using hx)
theorem sB_sc (s : St) (n : Nat) : ∀ x ∈ (sB s).cells, Scoped n x := fun x hx => by
  simp only [sB, stc, List.mem_cons, List.not_mem_nil, or_false] at hx
  rcases hx with rfl | rfl | rfl | rfl | rfl | rfl | rfl | rfl <;> exact .int _ _
theorem hsc_uG (H : Heap) (i j v n a a' : Nat) (X : Heap) (m m' : Mb) (s s' : St) (hi : i < H.length) (hj : j < H.length) (hX : X.length = 4) (h : HSc (uG H i j v n a X (mW m) (sB s) [])) : HSc (uG H i j v n a' X (mW m') (sB s') []) := by
  have h1 := HSc.set (id := i) (k := rR j v n a') h (rR_sc j v n a' _ (by rw [uG_len _ _ _ _ _ _ _ _ _ _ hX]; omega))
  rw [uG_si _ _ _ _ _ _ _ _ _ _ hi] at h1
  have h2 := HSc.set (id := H.length + 4) (k := mW m') h1 (mW_sc m' _)
  rw [uG_s4 _ _ _ _ _ _ _ _ _ _ hX] at h2
  have h3 := HSc.set (id := H.length + 5) (k := sB s') h2 (sB_sc s' _)
  rwa [uG_s5 _ _ _ _ _ _ _ _ _ _ hX] at h3
def rvK : Rr (Mb × Bool) → PV
  | .ok x _ => .tup [.bool x.2, .int .i64 0]
  | .er e _ => .tup [.bool false, .int .i64 ((e : Int) + 1)]
/-- Not yet coded. -/
def uncd (m : Mb) : Mb := { m with ca := false, cb := false, cc := false, cd := false, ce := false, cf := false }
def mKd : Rr (Mb × Bool) → Mb
  | .ok x _ => uncd x.1
  | .er _ _ => zMb

end Go.Proofs.Ytcabpncdgagihaa.Sc

namespace Go.Proofs.Ytcabpncdgagihaa.Sc
set_option linter.all false
set_option linter.unusedVariables false
set_option linter.unusedSimpArgs false
open Pm Ty Go.RowKit

theorem rvK_sc (n : Nat) (x : Rr (Mb × Bool)) : Scoped n (rvK x) := by
  cases x <;>
  exact .tup (all_scoped' fun x hx => by
    simp only [List.mem_cons, List.not_mem_nil, or_false] at hx
    rcases hx with rfl | rfl
    · exact .bool _
    · exact .int _ _)
section
variable (H : Heap) (i j v : Nat) (q : List UInt8) (n a : Nat) (X : Heap) (c : Cx) (s : St) (hi : i < H.length) (hB : H[j]? = some (rB q v)) (hne : i ≠ j) (hX : X.length = 4) (ha : a ≤ n) (hn : n ≤ 8 * q.length) (hq : q.length ≤ 100000000)
include hi hB hne hX ha hn hq
set_option maxHeartbeats 4000000 in
theorem kind_ref : CallOk Try.prog 124 [.ptr i 0 0, .agg (cxc c), .ptr (H.length + 4) 1 0] (uG H i j v n a X (mW zMb) (sB s) []) (rvK (tkKd c q n a)) (uG H i j v n (match tkKd c q n a with | .ok _ a1 => a1 | .er _ a1 => a1) X (mW (mKd (tkKd c q n a))) (sB s) []) := by
  have hj := (List.getElem?_eq_some_iff.1 hB).1
  have g6 := fun a B4 B5 K B => uG_6 H i j v n a X B4 B5 K hX B
  have g5 := fun a B4 B5 K => uG_5 H i j v n a X B4 B5 K hX
  have g4 := fun a B4 B5 K => uG_4 H i j v n a X B4 B5 K hX
  have s5 := fun a B4 B5 K B => uG_s5 H i j v n a X B4 B5 K hX B
  have s4 := fun a B4 B5 K B => uG_s4 H i j v n a X B4 B5 K hX B
  have c1 := cxc_cell c
  have cx0 : (cxc c)[0]? = some (.int .i64 c.t) := rfl
  have hzl := mbc_len zMb zl384_len
  have hzl2 := mbc_len { zMb with k := 2 } zl384_len
  have hlen := uG_len H i j v n a X (mW zMb) (sB s) [] hX
  have fin : ∀ (w : PV) (a' : Nat) (m : Mb) (_ : Scoped (H.length + 6) w), Fin (uG H i j v n a X (mW zMb) (sB s) []) w (uG H i j v n a' X (mW m) (sB s) []) w (uG H i j v n a' X (mW m) (sB s) [⟨23, 0, cxc c⟩]) := fun w a' m hw => by
    refine Fin.cut (K := [⟨23, 0, cxc c⟩]) (uG_ext H i j v n a' X (mW m) (sB s) [] _).symm (by rw [uG_len _ _ _ _ _ _ _ _ _ _ hX, uG_len _ _ _ _ _ _ _ _ _ _ hX]) (hsc_uG H i j v n a a' X zMb m s s hi hj hX) ?_
    rw [uG_len _ _ _ _ _ _ _ _ _ _ hX]
    exact .id hw
  have tu := tkr_ref i j v q n a (uG H i j v n a X (mW zMb) (sB s) [⟨23, 0, cxc c⟩]) (uG_i _ _ _ _ _ _ _ _ _ _ hi) (uG_j _ _ _ _ _ _ _ _ _ _ hB hne) hne ha hn hq
  rw [uG_si _ _ _ _ _ _ _ _ _ _ hi] at tu
  generalize hres : tkKd c q n a = res
  have hrs := rvK_sc (H.length + 6) res
  unfold tkKd at hres
  refine CallOk.body (F0 := [(0, .ptr i 0 0), (1, .agg (cxc c)), (2, .ptr (H.length + 4) 1 0)]) Try.func124 rfl Try.ntmps124 Try.results124 rfl (by kernel_rfl) rfl ?_
  (repeat refine PW.seq ?_); refine PW.rg rfl fun K hK => ?_; simp (maxSteps := 3000000) (disch := omega) only [go_sem, ↓reduceIte, reduceCtorEq, pappend, plen, c1]; refine hK _ _ ?_; clear hK K
  refine PW.at [0, 2, 4] (F1 := [(0, .ptr i 0 0), (2, .ptr (H.length + 4) 1 0), (4, .ptr (H.length + 6) 0 0)]) (H1 := uG H i j v n a X (mW zMb) (sB s) [⟨23, 0, cxc c⟩]) ?_ (by simp [kp, slot, Nat.beq, hlen]) (uG_ext _ _ _ _ _ _ _ _ _ _ _)
  by_cases ht1 : c.t = 1
  · have q1 : (c.t == 1) = true := by simp [ht1]
    rw [if_pos ht1] at hres
    subst hres
    (repeat refine PW.seq ?_); refine PW.rg rfl fun K hK => ?_; simp (maxSteps := 3000000) (disch := omega) only [go_sem, ↓reduceIte, reduceCtorEq, pappend, plen, g6, cx0, q1]; refine hK _ _ ?_; clear hK K
    (repeat refine PW.seq ?_); refine PW.cond (t := _) rfl (fun h => ?_) (fun h => ?_)
    rotate_left
    · cases h
    (repeat refine PW.seq ?_); refine PW.rg rfl fun K hK => ?_; simp (maxSteps := 3000000) (disch := omega) only [go_sem, ↓reduceIte, reduceCtorEq, pappend, plen, g4, s4, mW_v, mW_c, mW_e, mbc_sk, mW_of, hzl]; refine hK _ _ ?_; clear hK K
    (repeat refine PW.seq ?_); refine PW.rg rfl fun K hK => ?_; simp (maxSteps := 3000000) (disch := omega) only [go_sem, ↓reduceIte, reduceCtorEq, pappend, plen]; refine hK _ _ ?_; clear hK K
    exact PW.ret ⟨_, rfl, fin _ a _ hrs⟩
  have q1 : (c.t == 1) = false := by simp [ht1]
  rw [if_neg ht1] at hres
  (repeat refine PW.seq ?_); refine PW.rg rfl fun K hK => ?_; simp (maxSteps := 3000000) (disch := omega) only [go_sem, ↓reduceIte, reduceCtorEq, pappend, plen, g6, cx0, q1]; refine hK _ _ ?_; clear hK K
  (repeat refine PW.seq ?_); refine PW.cond (t := _) rfl (fun h => ?_) (fun h => ?_)
  · cases h
  refine PW.skip ?_
  cases hu : tkU q n a with
  | er e a1 =>
    rw [hu] at tu hres
    simp only [rvU, Rr.at] at tu
    rw [Rr.bind_er] at hres
    subst hres
    have d0 : ((e : Int) + 1 != 0) = true := by simp; omega
    have he := (tkU_e hu).2
    (repeat refine PW.seq ?_); refine PW.rg rfl fun K hK => ?_; simp (maxSteps := 3000000) (disch := omega) only [go_sem, ↓reduceIte, reduceCtorEq, pappend, plen]; refine VCx.call (tu) rfl ?_; simp (maxSteps := 3000000) (disch := omega) only [go_sem, ↓reduceIte, reduceCtorEq, pappend, plen]; refine hK _ _ ?_; clear hK K
    (repeat refine PW.seq ?_); refine PW.rg rfl fun K hK => ?_; simp (maxSteps := 3000000) (disch := omega) only [go_sem, ↓reduceIte, reduceCtorEq, pappend, plen, d0]; refine hK _ _ ?_; clear hK K
    (repeat refine PW.seq ?_); refine PW.cond (t := _) rfl (fun h => ?_) (fun h => ?_)
    rotate_left
    · cases h
    (repeat refine PW.seq ?_); refine PW.rg rfl fun K hK => ?_; simp (maxSteps := 3000000) (disch := omega) only [go_sem, ↓reduceIte, reduceCtorEq, pappend, plen]; refine hK _ _ ?_; clear hK K
    exact PW.ret ⟨_, rfl, fin _ a1 zMb hrs⟩
  | ok w a1 =>
    have hb := tkU_b hu ha
    rw [hu] at tu hres
    simp only [rvU, Rr.at] at tu
    rw [Rr.bind_ok] at hres
    (repeat refine PW.seq ?_); refine PW.rg rfl fun K hK => ?_; simp (maxSteps := 3000000) (disch := omega) only [go_sem, ↓reduceIte, reduceCtorEq, pappend, plen]; refine VCx.call (tu) rfl ?_; simp (maxSteps := 3000000) (disch := omega) only [go_sem, ↓reduceIte, reduceCtorEq, pappend, plen]; refine hK _ _ ?_; clear hK K
    by_cases hw0 : w = 0
    · have d0 : ((w : Int) == 0) = true := by simp [hw0]
      rw [if_neg (by split <;> omega), if_neg (by split <;> omega), if_pos hw0] at hres
      subst hres
      (repeat refine PW.seq ?_); refine PW.rg rfl fun K hK => ?_; simp (maxSteps := 3000000) (disch := omega) only [go_sem, ↓reduceIte, reduceCtorEq, pappend, plen, d0]; refine hK _ _ ?_; clear hK K
      (repeat refine PW.seq ?_); refine PW.cond (t := _) rfl (fun h => ?_) (fun h => ?_)
      rotate_left
      · cases h
      (repeat refine PW.seq ?_); refine PW.rg rfl fun K hK => ?_; simp (maxSteps := 3000000) (disch := omega) only [go_sem, ↓reduceIte, reduceCtorEq, pappend, plen]; refine hK _ _ ?_; clear hK K
      exact PW.ret ⟨_, rfl, fin _ a1 zMb hrs⟩
    have d0 : ((w : Int) == 0) = false := by rw [beq_eq_false_iff_ne]; omega
    (repeat refine PW.seq ?_); refine PW.rg rfl fun K hK => ?_; simp (maxSteps := 3000000) (disch := omega) only [go_sem, ↓reduceIte, reduceCtorEq, pappend, plen, d0]; refine hK _ _ ?_; clear hK K
    (repeat refine PW.seq ?_); refine PW.cond (t := _) rfl (fun h => ?_) (fun h => ?_)
    · cases h
    refine PW.skip ?_
    (repeat refine PW.seq ?_); refine PW.rg rfl fun K hK => ?_; simp (maxSteps := 3000000) (disch := omega) only [go_sem, ↓reduceIte, reduceCtorEq, pappend, plen]; refine hK _ _ ?_; clear hK K
    refine PW.to [0, 2, 8, 10] [(0, .ptr i 0 0), (2, .ptr (H.length + 4) 1 0), (8, .int .i64 (w : Int)), (10, .int .i64 ((if c.t = 2 then 3 else 7 : Nat) : Int))] (uG H i j v n a1 X (mW zMb) (sB s) [⟨23, 0, cxc c⟩]) ?_ ?_
    · by_cases ht2 : c.t = 2
      · have q2 : (c.t == 2) = true := by simp [ht2]
        rw [if_pos ht2]
        (repeat refine PW.seq ?_); refine PW.rg rfl fun K hK => ?_; simp (maxSteps := 3000000) (disch := omega) only [go_sem, ↓reduceIte, reduceCtorEq, pappend, plen, g6, cx0, q2]; refine hK _ _ ?_; clear hK K
        (repeat refine PW.seq ?_); refine PW.cond (t := _) rfl (fun h => ?_) (fun h => ?_)
        rotate_left
        · cases h
        (repeat refine PW.seq ?_); refine PW.rg rfl fun K hK => ?_; simp (maxSteps := 3000000) (disch := omega) only [go_sem, ↓reduceIte, reduceCtorEq, pappend, plen]; refine hK _ _ ?_; clear hK K
        exact ⟨rfl, rfl⟩
      · have q2 : (c.t == 2) = false := by simp [ht2]
        rw [if_neg ht2]
        (repeat refine PW.seq ?_); refine PW.rg rfl fun K hK => ?_; simp (maxSteps := 3000000) (disch := omega) only [go_sem, ↓reduceIte, reduceCtorEq, pappend, plen, g6, cx0, q2]; refine hK _ _ ?_; clear hK K
        (repeat refine PW.seq ?_); refine PW.cond (t := _) rfl (fun h => ?_) (fun h => ?_)
        · cases h
        exact PW.skip ⟨rfl, rfl⟩
    have hL : (if c.t = 2 then 3 else 7 : Nat) ≤ 7 := by split <;> omega
    generalize (if c.t = 2 then 3 else 7 : Nat) = last at *
    by_cases h1 : last < w
    · have d1 : decide ((last : Int) < (w : Int)) = true := decide_eq_true (by omega)
      rw [if_pos h1] at hres
      subst hres
      (repeat refine PW.seq ?_); refine PW.rg rfl fun K hK => ?_; simp (maxSteps := 3000000) (disch := omega) only [go_sem, ↓reduceIte, reduceCtorEq, pappend, plen, d1]; refine hK _ _ ?_; clear hK K
      (repeat refine PW.seq ?_); refine PW.cond (t := _) rfl (fun h => ?_) (fun h => ?_)
      rotate_left
      · cases h
      (repeat refine PW.seq ?_); refine PW.rg rfl fun K hK => ?_; simp (maxSteps := 3000000) (disch := omega) only [go_sem, ↓reduceIte, reduceCtorEq, pappend, plen]; refine hK _ _ ?_; clear hK K
      exact PW.ret ⟨_, rfl, fin _ a1 zMb hrs⟩
    have d1 : decide ((last : Int) < (w : Int)) = false := decide_eq_false (by omega)
    rw [if_neg h1] at hres
    (repeat refine PW.seq ?_); refine PW.rg rfl fun K hK => ?_; simp (maxSteps := 3000000) (disch := omega) only [go_sem, ↓reduceIte, reduceCtorEq, pappend, plen, d1]; refine hK _ _ ?_; clear hK K
    (repeat refine PW.seq ?_); refine PW.cond (t := _) rfl (fun h => ?_) (fun h => ?_)
    · cases h
    refine PW.skip ?_
    by_cases h2 : w = last
    · have d2 : ((w : Int) == (last : Int)) = true := by simp [h2]
      rw [if_pos h2] at hres
      subst hres
      (repeat refine PW.seq ?_); refine PW.rg rfl fun K hK => ?_; simp (maxSteps := 3000000) (disch := omega) only [go_sem, ↓reduceIte, reduceCtorEq, pappend, plen, d2]; refine hK _ _ ?_; clear hK K
      (repeat refine PW.seq ?_); refine PW.cond (t := _) rfl (fun h => ?_) (fun h => ?_)
      rotate_left
      · cases h
      (repeat refine PW.seq ?_); refine PW.rg rfl fun K hK => ?_; simp (maxSteps := 3000000) (disch := omega) only [go_sem, ↓reduceIte, reduceCtorEq, pappend, plen, g4, s4, mW_v, mW_c, mW_e, mbc_sk, mW_of, hzl]; refine hK _ _ ?_; clear hK K
      (repeat refine PW.seq ?_); refine PW.rg rfl fun K hK => ?_; simp (maxSteps := 3000000) (disch := omega) only [go_sem, ↓reduceIte, reduceCtorEq, pappend, plen]; refine hK _ _ ?_; clear hK K
      exact PW.ret ⟨_, rfl, fin _ a1 _ hrs⟩
    have d2 : ((w : Int) == (last : Int)) = false := by rw [beq_eq_false_iff_ne]; omega
    rw [if_neg h2, if_neg hw0] at hres
    subst hres
    (repeat refine PW.seq ?_); refine PW.rg rfl fun K hK => ?_; simp (maxSteps := 3000000) (disch := omega) only [go_sem, ↓reduceIte, reduceCtorEq, pappend, plen, d2]; refine hK _ _ ?_; clear hK K
    (repeat refine PW.seq ?_); refine PW.cond (t := _) rfl (fun h => ?_) (fun h => ?_)
    · cases h
    refine PW.skip ?_
    have h6 : w = 1 ∨ w = 2 ∨ w = 3 ∨ w = 4 ∨ w = 5 ∨ w = 6 := by omega
    clear h1 h2 d1 d2 hb hL tu d0 hw0 hu
    (repeat refine PW.seq ?_); refine PW.rg rfl fun K hK => ?_; simp (maxSteps := 3000000) (disch := omega) only [go_sem, ↓reduceIte, reduceCtorEq, pappend, plen, g4, s4, mW_v, mW_c, mW_e, mbc_sk, mW_of, hzl]; refine hK _ _ ?_; clear hK K
    rcases h6 with rfl | rfl | rfl | rfl | rfl | rfl
    all_goals
      (repeat refine PW.seq ?_); refine PW.rg rfl fun K hK => ?_; simp (maxSteps := 3000000) (disch := omega) only [go_sem, ↓reduceIte, reduceCtorEq, pappend, plen, g4, s4, mW_v, mW_c, mW_e, mbc_su, mW_of, hzl2, Nat.reduceAdd]; refine hK _ _ ?_; clear hK K
      (repeat refine PW.seq ?_); refine PW.rg rfl fun K hK => ?_; simp (maxSteps := 3000000) (disch := omega) only [go_sem, ↓reduceIte, reduceCtorEq, pappend, plen]; refine hK _ _ ?_; clear hK K
      exact PW.ret ⟨_, rfl, fin _ a1 _ hrs⟩
end

end Go.Proofs.Ytcabpncdgagihaa.Sc

namespace Go.Proofs.Ytcabpncdgagihaa.Sc
set_option linter.all false
set_option linter.unusedVariables false
set_option linter.unusedSimpArgs false
open Pm Ty Go.RowKit

/-- What a part of the reference leaves behind. -/
def prtU (H : Heap) (i j v n : Nat) (X : Heap) (x : Rr (Mb × St)) : PV → Heap → Prop := fun w H' =>
  match x with
  | .ok y a => w = .int .i64 0 ∧ H' = uG H i j v n a X (mW y.1) (sB y.2) []
  | .er e _ => w = ecd e ∧ ∃ a m s, a ≤ n ∧ m.lv.length = 384 ∧ H' = uG H i j v n a X (mW m) (sB s) []
theorem pu_out {H : Heap} {i j v n a a' : Nat} {X : Heap} {m m' : Mb} {s s' : St} {R : PV → Heap → Prop} {e : Int} {K : Heap} (hi : i < H.length) (hj : j < H.length) (hX : X.length = 4) (hR : R (.int .i64 e) (uG H i j v n a' X (mW m') (sB s') [])) : Outs (uG H i j v n a X (mW m) (sB s) []) R (.int .i64 e) (uG H i j v n a' X (mW m') (sB s') K) :=
  .inr (.inr fun hs => ⟨.int .i64 e, uG H i j v n a' X (mW m') (sB s') [], hR, by rw [uG_len _ _ _ _ _ _ _ _ _ _ hX, uG_len _ _ _ _ _ _ _ _ _ _ hX]; exact Nat.le_refl _, by
    have h := hsc_uG H i j v n a a' X m m' s s' hi hj hX hs
    have := CutH.base (K := K) h
    rwa [uG_ext] at this, .id (.int _ _)⟩)
theorem mbc_sx (m : Mb) (d k : Nat) (hd : d < 2) (hk : k < 2) (x : Int) : (mbc m).set (5 + d * 4 + k * 2) (.int .i64 x) = mbc (setVm m d k x (vYm m d k)) := by
  have h1 : d = 0 ∨ d = 1 := by omega
  have h2 : k = 0 ∨ k = 1 := by omega
  rcases h1 with rfl | rfl <;> rcases h2 with rfl | rfl <;> rfl
theorem mbc_sy (m : Mb) (d k : Nat) (hd : d < 2) (hk : k < 2) (x y : Int) : (mbc (setVm m d k x (vYm m d k))).set (5 + d * 4 + k * 2 + 1) (.int .i64 y) = mbc (setVm m d k x y) := by
  have h1 : d = 0 ∨ d = 1 := by omega
  have h2 : k = 0 ∨ k = 1 := by omega
  rcases h1 with rfl | rfl <;> rcases h2 with rfl | rfl <;> rfl
theorem mbc_gx (m : Mb) (d k : Nat) (hd : d < 2) (hk : k < 2) (x y : Int) : (mbc (setVm m d k x y))[5 + d * 4 + k * 2]? = some (.int .i64 x) := by
  have h1 : d = 0 ∨ d = 1 := by omega
  have h2 : k = 0 ∨ k = 1 := by omega
  rcases h1 with rfl | rfl <;> rcases h2 with rfl | rfl <;> rfl
theorem mbc_gv (m : Mb) (d k : Nat) (hd : d < 2) (hk : k < 2) (x y : Int) : List.take 2 (List.drop (5 + d * 4 + k * 2) (mbc (setVm m d k x y))) = [.int .i64 x, .int .i64 y] := by
  have h1 : d = 0 ∨ d = 1 := by omega
  have h2 : k = 0 ∨ k = 1 := by omega
  rcases h1 with rfl | rfl <;> rcases h2 with rfl | rfl <;> rfl
theorem mbc_ud (m : Mb) (d : Nat) (hd : d < 2) : (mbc m)[1 + d]? = some (.bool (usd m d)) := by
  have h1 : d = 0 ∨ d = 1 := by omega
  rcases h1 with rfl | rfl <;> rfl
theorem mbc_fp (m : Mb) : (mbc m)[3]? = some (.bool m.fp) := rfl
theorem stc_x (s : St) (d : Nat) (hd : d < 2) : (stc s)[4 + d * 2]? = some (.int .i64 (sXs s d)) := by
  have h1 : d = 0 ∨ d = 1 := by omega
  rcases h1 with rfl | rfl <;> rfl
theorem stc_y (s : St) (d : Nat) (hd : d < 2) : (stc s)[4 + d * 2 + 1]? = some (.int .i64 (sYs s d)) := by
  have h1 : d = 0 ∨ d = 1 := by omega
  rcases h1 with rfl | rfl <;> rfl
theorem stc_sv (s : St) (d : Nat) (hd : d < 2) (x y : Int) : List.take (4 + d * 2) (stc s) ++ .int .i64 x :: .int .i64 y :: List.drop (4 + d * 2 + (1 + 1)) (stc s) = stc (setV s d x y) := by
  have h1 : d = 0 ∨ d = 1 := by omega
  rcases h1 with rfl | rfl <;> rfl

section
variable (H : Heap) (i j v : Nat) (q : List UInt8) (n : Nat) (X : Heap) (c : Cx) (hi : i < H.length) (hB : H[j]? = some (rB q v)) (hne : i ≠ j) (hX : X.length = 4) (hn : n ≤ 8 * q.length) (hq : q.length ≤ 100000000)
include hi hB hne hX hn hq
set_option maxHeartbeats 8000000 in
theorem vecs_ref (m : Mb) (s : St) (a : Nat) (hml : m.lv.length = 384) (hs : vrS s) (ha : a ≤ n) (hk : m.k = 2) : CallEx Try.prog 125 [.ptr i 0 0, .agg (cxc c), .ptr (H.length + 4) 1 0, .ptr (H.length + 5) 1 0] (uG H i j v n a X (mW m) (sB s) []) (prtU H i j v n X (tkPr c q n m s a)) := by
  have hj := (List.getElem?_eq_some_iff.1 hB).1
  have g6 := fun a B4 B5 K B => uG_6 H i j v n a X B4 B5 K hX B
  have g5 := fun a B4 B5 K => uG_5 H i j v n a X B4 B5 K hX
  have g4 := fun a B4 B5 K => uG_4 H i j v n a X B4 B5 K hX
  have s5 := fun a B4 B5 K B => uG_s5 H i j v n a X B4 B5 K hX B
  have s4 := fun a B4 B5 K B => uG_s4 H i j v n a X B4 B5 K hX B
  have gi := fun a B4 B5 K => uG_i H i j v n a X B4 B5 K hi
  have gj := fun a B4 B5 K => uG_j H i j v n a X B4 B5 K hB hne
  have si := fun a B4 B5 K a' => uG_si H i j v n a X B4 B5 K hi a'
  have c1 := cxc_cell c
  have l1 : (cxc c).length = 4 := rfl
  have tk1 : List.take 4 (cxc c) = cxc c := rfl
  have hlen := uG_len H i j v n a X (mW m) (sB s) [] hX
  have bo := fun K => bcx_ref c K
  have fo := fun K => fcx_ref c K
  generalize hres : tkPr c q n m s a = res
  unfold tkPr at hres
  rw [if_pos hk] at hres
  refine CallEx.body (F0 := [(0, .ptr i 0 0), (1, .agg (cxc c)), (2, .ptr (H.length + 4) 1 0), (3, .ptr (H.length + 5) 1 0)]) Try.func125 rfl Try.ntmps125 Try.results125 rfl (by kernel_rfl) rfl ?_
  (repeat refine PW.seq ?_); refine PW.rg rfl fun K hK => ?_; simp (maxSteps := 3000000) (disch := omega) only [go_sem, ↓reduceIte, reduceCtorEq, pappend, plen, c1]; refine hK _ _ ?_; clear hK K
  refine PW.at [0, 2, 3, 5] (F1 := [(0, .ptr i 0 0), (2, .ptr (H.length + 4) 1 0), (3, .ptr (H.length + 5) 1 0), (5, .ptr (H.length + 6) 0 0)]) (H1 := uG H i j v n a X (mW m) (sB s) [⟨23, 0, cxc c⟩]) ?_ (by simp [kp, slot, Nat.beq, hlen]) (uG_ext _ _ _ _ _ _ _ _ _ _ _)
  (repeat refine PW.seq ?_); refine PW.rg rfl fun K hK => ?_; simp (maxSteps := 3000000) (disch := omega) only [go_sem, ↓reduceIte, reduceCtorEq, pappend, plen]; refine hK _ _ ?_; clear hK K
  clear hlen
  suffices hrest : ∀ (m : Mb) (a : Nat), m.lv.length = 384 → a ≤ n → tkDs c q n 2 0 m s a = res → PW Try.prog _ _ [(0, .ptr i 0 0), (2, .ptr (H.length + 4) 1 0), (3, .ptr (H.length + 5) 1 0), (5, .ptr (H.length + 6) 0 0)] (uG H i j v n a X (mW m) (sB s) [⟨23, 0, cxc c⟩]) _ by
    have hlm := mbc_len m hml
    (repeat refine PW.seq ?_); refine PW.rg rfl fun K hK => ?_; simp (maxSteps := 3000000) (disch := omega) only [go_sem, ↓reduceIte, reduceCtorEq, pappend, plen, g6, tk1, l1]; refine VCx.call (bo _) rfl ?_; simp (maxSteps := 3000000) (disch := omega) only [go_sem, ↓reduceIte, reduceCtorEq, pappend, plen, g6, tk1, l1]; refine hK _ _ ?_; clear hK K
    cases hbv : bcx c with
    | false =>
      rw [hbv, if_neg (by decide), Rr.bind_ok] at hres
      (repeat refine PW.seq ?_); refine PW.cond (t := _) rfl (fun h => ?_) (fun h => ?_)
      · cases h
      refine PW.skip ?_
      exact PW.at [0, 2, 3, 5] (hrest m a hml ha hres) rfl rfl
    | true =>
      rw [hbv, if_pos rfl] at hres
      have bt := bit_ref i j v q n a _ (gi a (mW m) (sB s) [⟨23, 0, cxc c⟩]) (gj _ _ _ _) hne ha hn hq
      rw [si] at bt
      (repeat refine PW.seq ?_); refine PW.cond (t := _) rfl (fun h => ?_) (fun h => ?_)
      rotate_left
      · cases h
      cases hf : tkF q n a with
      | ok b a1 =>
        obtain ⟨rfl, h2, _⟩ := tkF_b hf
        rw [hf, Rr.bind_ok, Rr.bind_ok] at hres
        rw [hf] at bt
        simp only [rvF, Rr.at] at bt
        (repeat refine PW.seq ?_); refine PW.rg rfl fun K hK => ?_; simp (maxSteps := 3000000) (disch := omega) only [go_sem, ↓reduceIte, reduceCtorEq, pappend, plen]
        refine VCx.call (bt) rfl ?_; simp (maxSteps := 3000000) (disch := omega) only [go_sem, ↓reduceIte, reduceCtorEq, pappend, plen, g4, s4, mW_v, mW_c, mW_e, hlm, mbc_sp, mW_of]; refine hK _ _ ?_; clear hK K
        (repeat refine PW.seq ?_); refine PW.rg rfl fun K hK => ?_; simp (maxSteps := 3000000) (disch := omega) only [go_sem, ↓reduceIte, reduceCtorEq, pappend, plen]; refine hK _ _ ?_; clear hK K
        (repeat refine PW.seq ?_); refine PW.cond (t := _) rfl (fun h => ?_) (fun h => ?_)
        · cases h
        refine PW.skip ?_
        exact PW.at [0, 2, 3, 5] (hrest { m with fp := b } (a + 1) hml (by omega) hres) rfl rfl
      | er e a1 =>
        obtain ⟨rfl, rfl, h2⟩ := tkF_e hf
        rw [hf, Rr.bind_er, Rr.bind_er] at hres
        rw [hf] at bt
        simp only [rvF, Rr.at] at bt
        (repeat refine PW.seq ?_); refine PW.rg rfl fun K hK => ?_; simp (maxSteps := 3000000) (disch := omega) only [go_sem, ↓reduceIte, reduceCtorEq, pappend, plen]
        refine VCx.call (bt) rfl ?_; simp (maxSteps := 3000000) (disch := omega) only [go_sem, ↓reduceIte, reduceCtorEq, pappend, plen, g4, s4, mW_v, mW_c, mW_e, hlm, mbc_sp, mW_of]; refine hK _ _ ?_; clear hK K
        (repeat refine PW.seq ?_); refine PW.rg rfl fun K hK => ?_; simp (maxSteps := 3000000) (disch := omega) only [go_sem, ↓reduceIte, reduceCtorEq, pappend, plen]; refine hK _ _ ?_; clear hK K
        (repeat refine PW.seq ?_); refine PW.cond (t := _) rfl (fun h => ?_) (fun h => ?_)
        rotate_left
        · cases h
        (repeat refine PW.seq ?_); refine PW.rg rfl fun K hK => ?_; simp (maxSteps := 3000000) (disch := omega) only [go_sem, ↓reduceIte, reduceCtorEq, pappend, plen]; refine hK _ _ ?_; clear hK K
        refine PW.ret ⟨_, rfl, pu_out hi hj hX ?_⟩
        rw [← hres]
        exact ⟨rfl, a1, { m with fp := false }, s, ha, hml, rfl⟩
  clear hres ha hml
  intro m a hml ha hres
  (repeat refine PW.seq ?_); refine PW.rg rfl fun K hK => ?_; simp (maxSteps := 3000000) (disch := omega) only [go_sem, ↓reduceIte, reduceCtorEq, pappend, plen]; refine hK _ _ ?_; clear hK K
  (repeat refine PW.seq ?_); refine PW.block (PW.loop ?_)
  suffices hl1 : ∀ (d : Nat) (m1 : Mb) (s1 : St) (a1 : Nat), d ≤ 2 → SameU m m1 → vrS s1 → a1 ≤ n → tkDs c q n (2 - d) d m1 s1 a1 = res → PL Try.prog _ _ [(0, .ptr i 0 0), (2, .ptr (H.length + 4) 1 0), (3, .ptr (H.length + 5) 1 0), (5, .ptr (H.length + 6) 0 0), (10, .int .i64 (d : Int))] (uG H i j v n a1 X (mW m1) (sB s1) [⟨23, 0, cxc c⟩]) _ by
    exact PL.at [0, 2, 3, 5, 10] (hl1 0 m s a (by omega) (.refl m) hs ha hres) rfl rfl
  clear hres ha hs
  intro d m1 s1 a1 hd hm1 hs1 ha1 hres
  induction hdd : 2 - d using Nat.strongRecOn generalizing d m1 s1 a1 with
  | _ dd ih =>
    refine PL.round ?_; (repeat refine PW.seq ?_); refine PW.rg rfl fun K hK => ?_; simp (maxSteps := 3000000) (disch := omega) only [go_sem, ↓reduceIte, reduceCtorEq, pappend, plen]; refine hK _ _ ?_; clear hK K
    (repeat refine PW.seq ?_); refine PW.cond (t := _) rfl (fun h => ?_) (fun h => ?_)
    rotate_left
    · have h6 : d = 2 := by have := of_decide_eq_false h; omega
      subst h6
      refine PW.exit ?_
      simp only [Nat.sub_self, tkDs] at hres
      (repeat refine PW.seq ?_); refine PW.rg rfl fun K hK => ?_; simp (maxSteps := 3000000) (disch := omega) only [go_sem, ↓reduceIte, reduceCtorEq, pappend, plen]; refine hK _ _ ?_; clear hK K
      refine PW.ret ⟨_, rfl, pu_out hi hj hX ?_⟩
      rw [← hres]
      exact ⟨rfl, rfl⟩
    have h6 : d < 2 := by have := of_decide_eq_true h; omega
    obtain ⟨n', hn'⟩ : ∃ n', 2 - d = n' + 1 := ⟨1 - d, by omega⟩
    rw [hn', tkDs] at hres
    have hnx := fun m1 s1 a1 => ih (2 - (d + 1)) (by omega) (d + 1) m1 s1 a1 (by omega)
    rw [show 2 - (d + 1) = n' by omega] at hnx
    have hdr : tkDr c q n m1 s1 d a1 = if usd m1 d then tkVs c q n d (nvM m1) 0 m1 s1 a1 else .ok (m1, s1) a1 := rfl
    have env2 : nvM m1 = nvM m := by unfold nvM; rw [hm1.2.2.2.1]
    have hum : ∀ m2, SameU m m2 → usd m2 d = usd m d := fun m2 h => by unfold usd; rw [h.2.1, h.2.2.1]
    rw [hdr, hum m1 hm1, env2] at hres
    have hnv := nvM_b m
    refine PW.skip ?_; (repeat refine PW.seq ?_); refine PW.block ?_
    (repeat refine PW.seq ?_); refine PW.rg rfl fun K hK => ?_; simp (maxSteps := 3000000) (disch := omega) only [go_sem, ↓reduceIte, reduceCtorEq, pappend, plen]; refine hK _ _ ?_; clear hK K
    (repeat refine PW.seq ?_); refine PW.block (PW.loop ?_)
    have hud := fun m2 => mbc_ud m2 d h6
    cases hu : usd m d with
    | false =>
      rw [hu, if_neg (by decide), Rr.bind_ok] at hres
      refine PL.round ?_
      have hu1 : usd m1 d = false := by rw [hum m1 hm1, hu]
      (repeat refine PW.seq ?_); refine PW.rg rfl fun K hK => ?_; simp (maxSteps := 3000000) (disch := omega) only [go_sem, ↓reduceIte, reduceCtorEq, pappend, plen, g4, mW_v, mW_c, hud, hu1]; refine hK _ _ ?_; clear hK K
      (repeat refine PW.seq ?_); refine PW.cond (t := _) rfl (fun h => ?_) (fun h => ?_)
      · cases h
      refine PW.exit ?_
      (repeat refine PW.seq ?_); refine PW.rg rfl fun K hK => ?_; simp (maxSteps := 3000000) (disch := omega) only [go_sem, ↓reduceIte, reduceCtorEq, pappend, plen]; refine hK _ _ ?_; clear hK K
      exact PL.at [0, 2, 3, 5, 10] (hnx m1 s1 a1 hm1 hs1 ha1 hres rfl) rfl rfl
    | true =>
      rw [hu, if_pos rfl] at hres
      suffices hl2 : ∀ (k : Nat) (m2 : Mb) (s2 : St) (a2 : Nat), k ≤ nvM m → SameU m m2 → vrS s2 → a2 ≤ n → ((tkVs c q n d (nvM m - k) k m2 s2 a2).bind fun x a1 => tkDs c q n n' (d + 1) x.1 x.2 a1) = res →
          PL Try.prog _ _ [(0, .ptr i 0 0), (2, .ptr (H.length + 4) 1 0), (3, .ptr (H.length + 5) 1 0), (5, .ptr (H.length + 6) 0 0), (10, .int .i64 (d : Int)), (11, .int .i64 (k : Int))] (uG H i j v n a2 X (mW m2) (sB s2) [⟨23, 0, cxc c⟩]) _ by
        exact PL.at [0, 2, 3, 5, 10, 11] (hl2 0 m1 s1 a1 (by omega) hm1 hs1 ha1 hres) rfl rfl
      clear ih hres hs1 ha1 hdr env2 hm1
      intro k m2 s2 a2 hk2 hm2 hs2 ha2 hres
      induction hkk : nvM m - k using Nat.strongRecOn generalizing k m2 s2 a2 with
      | _ kk ih2 =>
        have hu2 : usd m2 d = true := by rw [hum m2 hm2, hu]
        have hfp : m2.fp = m.fp := hm2.2.2.2.1
        have hml2 : m2.lv.length = 384 := by rw [hm2.1]; exact hml
        by_cases h7 : k = nvM m
        · subst h7
          simp only [Nat.sub_self, tkVs, Rr.bind_ok] at hres
          refine PL.round ?_
          cases hmf : m.fp with
          | true =>
            have h8 : nvM m = 2 := by unfold nvM; rw [hmf]; rfl
            rw [h8]
            (repeat refine PW.seq ?_); refine PW.rg rfl fun K hK => ?_; simp (maxSteps := 3000000) (disch := omega) only [go_sem, ↓reduceIte, reduceCtorEq, pappend, plen, g4, mW_v, mW_c, hud, hu2]; refine hK _ _ ?_; clear hK K
            (repeat refine PW.seq ?_); refine PW.cond (t := _) rfl (fun h => ?_) (fun h => ?_)
            · cases h
            refine PW.exit ?_
            (repeat refine PW.seq ?_); refine PW.rg rfl fun K hK => ?_; simp (maxSteps := 3000000) (disch := omega) only [go_sem, ↓reduceIte, reduceCtorEq, pappend, plen]; refine hK _ _ ?_; clear hK K
            exact PL.at [0, 2, 3, 5, 10] (hnx m2 s2 a2 hm2 hs2 ha2 hres rfl) rfl rfl
          | false =>
            have h8 : nvM m = 1 := by unfold nvM; rw [hmf]; rfl
            have h9 : m2.fp = false := by rw [hfp, hmf]
            rw [h8]
            (repeat refine PW.seq ?_); refine PW.rg rfl fun K hK => ?_; simp (maxSteps := 3000000) (disch := omega) only [go_sem, ↓reduceIte, reduceCtorEq, pappend, plen, g4, mW_v, mW_c, hud, hu2]; refine hK _ _ ?_; clear hK K
            (repeat refine PW.seq ?_); refine PW.cond (t := _) rfl (fun h => ?_) (fun h => ?_)
            rotate_left
            · cases h
            refine PW.skip ?_; (repeat refine PW.seq ?_); refine PW.block ?_
            (repeat refine PW.seq ?_); refine PW.rg rfl fun K hK => ?_; simp (maxSteps := 3000000) (disch := omega) only [go_sem, ↓reduceIte, reduceCtorEq, pappend, plen, g4, mW_v, mW_c, mbc_fp, h9]; refine hK _ _ ?_; clear hK K
            (repeat refine PW.seq ?_); refine PW.cond (t := _) rfl (fun h => ?_) (fun h => ?_)
            rotate_left
            · cases h
            refine PW.exit ?_
            (repeat refine PW.seq ?_); refine PW.rg rfl fun K hK => ?_; simp (maxSteps := 3000000) (disch := omega) only [go_sem, ↓reduceIte, reduceCtorEq, pappend, plen]; refine hK _ _ ?_; clear hK K
            exact PL.at [0, 2, 3, 5, 10] (hnx m2 s2 a2 hm2 hs2 ha2 hres rfl) rfl rfl
        have h8 : k < nvM m := by omega
        have hk22 : k < 2 := by omega
        obtain ⟨n2, hn2⟩ : ∃ n2, nvM m - k = n2 + 1 := ⟨nvM m - k - 1, by omega⟩
        rw [hn2, tkVs, Rr.bind_bind] at hres
        have hnx2 := fun m1 s1 a1 => ih2 (nvM m - (k + 1)) (by omega) (k + 1) m1 s1 a1 (by omega)
        rw [show nvM m - (k + 1) = n2 by omega] at hnx2
        clear ih2
        have dk : decide ((k : Int) < 2) = true := decide_eq_true (by omega)
        have hfk : k = 1 → m2.fp = true := fun e => by
          rw [hfp]
          cases hmf : m.fp with
          | true => rfl
          | false => exfalso; have : nvM m = 1 := by unfold nvM; rw [hmf]; rfl
                     omega
        refine PL.round ?_
        (repeat refine PW.seq ?_); refine PW.rg rfl fun K hK => ?_; simp (maxSteps := 3000000) (disch := omega) only [go_sem, ↓reduceIte, reduceCtorEq, pappend, plen, g4, mW_v, mW_c, hud, hu2, dk]; refine hK _ _ ?_; clear hK K
        (repeat refine PW.seq ?_); refine PW.cond (t := _) rfl (fun h => ?_) (fun h => ?_)
        rotate_left
        · cases h
        refine PW.skip ?_; (repeat refine PW.seq ?_); refine PW.block ?_
        suffices h13 : PW Try.prog _ _ [(0, .ptr i 0 0), (2, .ptr (H.length + 4) 1 0), (3, .ptr (H.length + 5) 1 0), (5, .ptr (H.length + 6) 0 0), (10, .int .i64 (d : Int)), (11, .int .i64 (k : Int)), (54, .bool false)] (uG H i j v n a2 X (mW m2) (sB s2) [⟨23, 0, cxc c⟩]) _ by
          have k01 : k = 0 ∨ k = 1 := by omega
          rcases k01 with rfl | rfl
          · (repeat refine PW.seq ?_); refine PW.rg rfl fun K hK => ?_; simp (maxSteps := 3000000) (disch := omega) only [go_sem, ↓reduceIte, reduceCtorEq, pappend, plen]; refine hK _ _ ?_; clear hK K
            exact PW.at [0, 2, 3, 5, 10, 11, 54] h13 rfl rfl
          · have hf2 := hfk rfl
            (repeat refine PW.seq ?_); refine PW.rg rfl fun K hK => ?_; simp (maxSteps := 3000000) (disch := omega) only [go_sem, ↓reduceIte, reduceCtorEq, pappend, plen, g4, mW_v, mW_c, mbc_fp, hf2]; refine hK _ _ ?_; clear hK K
            exact PW.at [0, 2, 3, 5, 10, 11, 54] h13 rfl rfl
        (repeat refine PW.seq ?_); refine PW.cond (t := _) rfl (fun h => ?_) (fun h => ?_)
        · cases h
        refine PW.skip ?_
        suffices h14 : PW Try.prog _ _ [(0, .ptr i 0 0), (2, .ptr (H.length + 4) 1 0), (3, .ptr (H.length + 5) 1 0), (5, .ptr (H.length + 6) 0 0), (10, .int .i64 (d : Int)), (11, .int .i64 (k : Int)), (62, .bool (m2.fp || fcx c))] (uG H i j v n a2 X (mW m2) (sB s2) [⟨23, 0, cxc c⟩]) _ by
          cases hf2 : m2.fp with
          | true =>
            rw [hf2] at h14
            (repeat refine PW.seq ?_); refine PW.rg rfl fun K hK => ?_; simp (maxSteps := 3000000) (disch := omega) only [go_sem, ↓reduceIte, reduceCtorEq, pappend, plen, g4, mW_v, mW_c, mbc_fp, hf2]; refine hK _ _ ?_; clear hK K
            exact PW.at [0, 2, 3, 5, 10, 11, 62] h14 rfl rfl
          | false =>
            rw [hf2] at h14
            (repeat refine PW.seq ?_); refine PW.rg rfl fun K hK => ?_; simp (maxSteps := 3000000) (disch := omega) only [go_sem, ↓reduceIte, reduceCtorEq, pappend, plen, g4, mW_v, mW_c, mbc_fp, hf2, g6, tk1, l1]
            refine VCx.call (fo _) rfl ?_; simp (maxSteps := 3000000) (disch := omega) only [go_sem, ↓reduceIte, reduceCtorEq, pappend, plen]; refine hK _ _ ?_; clear hK K
            exact PW.at [0, 2, 3, 5, 10, 11, 62] h14 rfl rfl
        unfold tkVc at hres
        have hsv := hs2 d
        clear hfp hfk hu2
        suffices hrest : ∀ (m3 : Mb) (a3 : Nat), SameU m m3 → a3 ≤ n → ((((tkD q n (sXs s2 d) 63 a3).bind fun x a2 => (tkD q n (sYs s2 d) 63 a2).bind fun y a3 => .ok (setVm m3 d k x y, setV s2 d x y) a3).bind fun v a => (tkVs c q n d n2 (k + 1) v.1 v.2 a).bind fun x a1 => tkDs c q n n' (d + 1) x.1 x.2 a1) = res) →
            PW Try.prog _ _ [(0, .ptr i 0 0), (2, .ptr (H.length + 4) 1 0), (3, .ptr (H.length + 5) 1 0), (5, .ptr (H.length + 6) 0 0), (10, .int .i64 (d : Int)), (11, .int .i64 (k : Int))] (uG H i j v n a3 X (mW m3) (sB s2) [⟨23, 0, cxc c⟩]) _ by
          have hlm := mbc_len m2 hml2
          cases hsel : (m2.fp || fcx c) with
          | false =>
            rw [hsel, if_neg (by decide), Rr.bind_ok] at hres
            (repeat refine PW.seq ?_); refine PW.cond (t := _) rfl (fun h => ?_) (fun h => ?_)
            · cases h
            refine PW.skip ?_
            exact PW.at [0, 2, 3, 5, 10, 11] (hrest m2 a2 hm2 ha2 hres) rfl rfl
          | true =>
            rw [hsel, if_pos rfl] at hres
            (repeat refine PW.seq ?_); refine PW.cond (t := _) rfl (fun h => ?_) (fun h => ?_)
            rotate_left
            · cases h
            by_cases han : a2 < n
            · have hf : tkF q n a2 = .ok (decide (ubit q a2 = 1)) (a2 + 1) := by unfold tkF; rw [if_pos han]
              rw [hf, Rr.bind_ok, Rr.bind_ok] at hres
              have hub := ubit_lt q a2
              have t := rtake_ref i j v q n a2 1 _ (gi a2 (mW m2) (sB s2) [⟨23, 0, cxc c⟩]) (gj _ _ _ _) hne (by omega) hn hq (by omega)
              rw [si, show vl q a2 1 = ubit q a2 by simp [vl]] at t
              have hbn : ((decide (ubit q a2 = 1)).toNat : Int) = (ubit q a2 : Int) := by
                have : ubit q a2 = 0 ∨ ubit q a2 = 1 := by omega
                rcases this with e | e <;> rw [e] <;> rfl
              rw [hbn] at hres
              have hst := mbc_ss m2 d k h6 hk22 (ubit q a2 : Int)
              (repeat refine PW.seq ?_); refine PW.rg rfl fun K hK => ?_; simp (maxSteps := 3000000) (disch := omega) only [go_sem, ↓reduceIte, reduceCtorEq, pappend, plen]; refine VCx.call (t) rfl ?_; simp (maxSteps := 3000000) (disch := omega) only [go_sem, ↓reduceIte, reduceCtorEq, pappend, plen]; refine hK _ _ ?_; clear hK K
              (repeat refine PW.seq ?_); refine PW.rg rfl fun K hK => ?_; simp (maxSteps := 3000000) (disch := omega) only [go_sem, ↓reduceIte, reduceCtorEq, pappend, plen]; refine hK _ _ ?_; clear hK K
              (repeat refine PW.seq ?_); refine PW.cond (t := _) rfl (fun h => ?_) (fun h => ?_)
              · cases h
              refine PW.skip ?_
              (repeat refine PW.seq ?_); refine PW.rg rfl fun K hK => ?_; simp (maxSteps := 3000000) (disch := omega) only [go_sem, ↓reduceIte, reduceCtorEq, pappend, plen, g4, s4, mW_v, mW_c, mW_e, hlm, hst, mW_of]; refine hK _ _ ?_; clear hK K
              exact PW.at [0, 2, 3, 5, 10, 11] (hrest _ (a2 + 1) (hm2.trans (setSl_same m2 d k _)) (by omega) hres) rfl rfl
            · have hf : tkF q n a2 = .er 3 a2 := by unfold tkF; rw [if_neg han]
              rw [hf, Rr.bind_er, Rr.bind_er, Rr.bind_er] at hres
              have t := rtake_shr i j v q n a2 1 _ (gi a2 (mW m2) (sB s2) [⟨23, 0, cxc c⟩]) (gj _ _ _ _) (by omega) (by omega) (by omega) (by omega)
              (repeat refine PW.seq ?_); refine PW.rg rfl fun K hK => ?_; simp (maxSteps := 3000000) (disch := omega) only [go_sem, ↓reduceIte, reduceCtorEq, pappend, plen]; refine VCx.call (t) rfl ?_; simp (maxSteps := 3000000) (disch := omega) only [go_sem, ↓reduceIte, reduceCtorEq, pappend, plen]; refine hK _ _ ?_; clear hK K
              (repeat refine PW.seq ?_); refine PW.rg rfl fun K hK => ?_; simp (maxSteps := 3000000) (disch := omega) only [go_sem, ↓reduceIte, reduceCtorEq, pappend, plen]; refine hK _ _ ?_; clear hK K
              (repeat refine PW.seq ?_); refine PW.cond (t := _) rfl (fun h => ?_) (fun h => ?_)
              rotate_left
              · cases h
              (repeat refine PW.seq ?_); refine PW.rg rfl fun K hK => ?_; simp (maxSteps := 3000000) (disch := omega) only [go_sem, ↓reduceIte, reduceCtorEq, pappend, plen]; refine hK _ _ ?_; clear hK K
              refine PW.ret ⟨_, rfl, pu_out hi hj hX ?_⟩
              rw [← hres]
              exact ⟨rfl, a2, m2, s2, ha2, hml2, rfl⟩
        clear hres ha2 hml2 hm2
        intro m3 a3 hm3 ha3 hres
        have hml3 : m3.lv.length = 384 := by rw [hm3.1]; exact hml
        have hlm := mbc_len m3 hml3
        have t1 := tksr_ref i j v q n a3 _ (gi a3 (mW m3) (sB s2) [⟨23, 0, cxc c⟩]) (gj _ _ _ _) hne ha3 hn hq
        rw [si] at t1
        unfold tkD at hres
        simp only [show ((63 : Nat) : Int) = 63 from rfl] at hres
        cases h1 : tkS q n a3 with
        | er e a4 =>
          have he := tkS_e h1
          rw [h1] at t1 hres
          simp only [rvS, Rr.at, Rr.bind_er] at t1 hres
          have d0 : ((e : Int) + 1 != 0) = true := by simp; omega
          (repeat refine PW.seq ?_); refine PW.rg rfl fun K hK => ?_; simp (maxSteps := 3000000) (disch := omega) only [go_sem, ↓reduceIte, reduceCtorEq, pappend, plen]; refine VCx.call (t1) rfl ?_; simp (maxSteps := 3000000) (disch := omega) only [go_sem, ↓reduceIte, reduceCtorEq, pappend, plen]; refine hK _ _ ?_; clear hK K
          (repeat refine PW.seq ?_); refine PW.rg rfl fun K hK => ?_; simp (maxSteps := 3000000) (disch := omega) only [go_sem, ↓reduceIte, reduceCtorEq, pappend, plen, d0]; refine hK _ _ ?_; clear hK K
          (repeat refine PW.seq ?_); refine PW.cond (t := _) rfl (fun h => ?_) (fun h => ?_)
          rotate_left
          · cases h
          (repeat refine PW.seq ?_); refine PW.rg rfl fun K hK => ?_; simp (maxSteps := 3000000) (disch := omega) only [go_sem, ↓reduceIte, reduceCtorEq, pappend, plen]; refine hK _ _ ?_; clear hK K
          refine PW.ret ⟨_, rfl, pu_out hi hj hX ?_⟩
          rw [← hres]
          exact ⟨rfl, a4, m3, s2, by omega, hml3, rfl⟩
        | ok dx a4 =>
          have hb := tkS_b h1 ha3
          rw [h1] at t1 hres
          simp only [rvS, Rr.at] at t1
          rw [Rr.bind_ok] at hres
          (repeat refine PW.seq ?_); refine PW.rg rfl fun K hK => ?_; simp (maxSteps := 3000000) (disch := omega) only [go_sem, ↓reduceIte, reduceCtorEq, pappend, plen]; refine VCx.call (t1) rfl ?_; simp (maxSteps := 3000000) (disch := omega) only [go_sem, ↓reduceIte, reduceCtorEq, pappend, plen]; refine hK _ _ ?_; clear hK K
          (repeat refine PW.seq ?_); refine PW.rg rfl fun K hK => ?_; simp (maxSteps := 3000000) (disch := omega) only [go_sem, ↓reduceIte, reduceCtorEq, pappend, plen]; refine hK _ _ ?_; clear hK K
          (repeat refine PW.seq ?_); refine PW.cond (t := _) rfl (fun h => ?_) (fun h => ?_)
          · cases h
          refine PW.skip ?_
          have gx := stc_x s2 d h6
          have sx := mbc_sx m3 d k h6 hk22
          have hmx : ∀ x, (mbc (setVm m3 d k x (vYm m3 d k))).length = 408 := fun x => mbc_len _ (by rw [setVm_lv]; exact hml3)
          have gxx := mbc_gx m3 d k h6 hk22
          (repeat refine PW.seq ?_); refine PW.drawt [] [] mix (by kernel_rfl) fun K hK => ?_; simp (maxSteps := 3000000) (disch := omega) only [go_sem, ↓reduceIte, reduceCtorEq, pappend, plen, g4, g5, s4, sB_v, sB_c, mW_v, mW_c, mW_e, gx, sx, hlm, mW_of]; refine hK _ _ ?_; clear hK K
          have vr0 := fun K => vrg_ref (sXs s2 d + dx) 0 K
          have evr : vrg (sXs s2 d + dx) 0 = win (sXs s2 d + dx) 63 := by unfold vrg; simp [win]
          rw [evr] at vr0
          generalize hxx : sXs s2 d + dx = x at *
          refine PW.at [0, 2, 3, 5, 10, 11] (F1 := [(0, .ptr i 0 0), (2, .ptr (H.length + 4) 1 0), (3, .ptr (H.length + 5) 1 0), (5, .ptr (H.length + 6) 0 0), (10, .int .i64 (d : Int)), (11, .int .i64 (k : Int))]) (H1 := uG H i j v n a4 X (mW (setVm m3 d k x (vYm m3 d k))) (sB s2) [⟨23, 0, cxc c⟩]) ?_ rfl rfl
          cases hwx : win x 63 with
          | false =>
            rw [hwx] at vr0 hres
            rw [if_neg (by decide)] at hres
            simp only [Rr.bind_er] at hres
            (repeat refine PW.seq ?_); refine PW.rg rfl fun K hK => ?_; simp (maxSteps := 3000000) (disch := omega) only [go_sem, ↓reduceIte, reduceCtorEq, pappend, plen, g4, mW_v, mW_c, gxx]
            refine VCx.call (vr0 _) rfl ?_; simp (maxSteps := 3000000) (disch := omega) only [go_sem, ↓reduceIte, reduceCtorEq, pappend, plen]; refine hK _ _ ?_; clear hK K
            (repeat refine PW.seq ?_); refine PW.cond (t := _) rfl (fun h => ?_) (fun h => ?_)
            rotate_left
            · cases h
            (repeat refine PW.seq ?_); refine PW.rg rfl fun K hK => ?_; simp (maxSteps := 3000000) (disch := omega) only [go_sem, ↓reduceIte, reduceCtorEq, pappend, plen]; refine hK _ _ ?_; clear hK K
            refine PW.ret ⟨_, rfl, pu_out hi hj hX ?_⟩
            rw [← hres]
            exact ⟨rfl, a4, _, s2, hb.2.2, by rw [setVm_lv]; exact hml3, rfl⟩
          | true =>
            have hxb := win_b hwx
            rw [hwx] at vr0 hres
            rw [if_pos rfl, Rr.bind_ok] at hres
            (repeat refine PW.seq ?_); refine PW.rg rfl fun K hK => ?_; simp (maxSteps := 3000000) (disch := omega) only [go_sem, ↓reduceIte, reduceCtorEq, pappend, plen, g4, mW_v, mW_c, gxx]
            refine VCx.call (vr0 _) rfl ?_; simp (maxSteps := 3000000) (disch := omega) only [go_sem, ↓reduceIte, reduceCtorEq, pappend, plen]; refine hK _ _ ?_; clear hK K
            (repeat refine PW.seq ?_); refine PW.cond (t := _) rfl (fun h => ?_) (fun h => ?_)
            · cases h
            refine PW.skip ?_
            have t2 := tksr_ref i j v q n a4 _ (gi a4 (mW (setVm m3 d k x (vYm m3 d k))) (sB s2) [⟨23, 0, cxc c⟩]) (gj _ _ _ _) hne hb.2.2 hn hq
            rw [si] at t2
            cases h2 : tkS q n a4 with
            | er e a5 =>
              have he := tkS_e h2
              rw [h2] at t2 hres
              simp only [rvS, Rr.at, Rr.bind_er] at t2 hres
              have d0 : ((e : Int) + 1 != 0) = true := by simp; omega
              (repeat refine PW.seq ?_); refine PW.rg rfl fun K hK => ?_; simp (maxSteps := 3000000) (disch := omega) only [go_sem, ↓reduceIte, reduceCtorEq, pappend, plen]; refine VCx.call (t2) rfl ?_; simp (maxSteps := 3000000) (disch := omega) only [go_sem, ↓reduceIte, reduceCtorEq, pappend, plen]; refine hK _ _ ?_; clear hK K
              (repeat refine PW.seq ?_); refine PW.rg rfl fun K hK => ?_; simp (maxSteps := 3000000) (disch := omega) only [go_sem, ↓reduceIte, reduceCtorEq, pappend, plen, d0]; refine hK _ _ ?_; clear hK K
              (repeat refine PW.seq ?_); refine PW.cond (t := _) rfl (fun h => ?_) (fun h => ?_)
              rotate_left
              · cases h
              (repeat refine PW.seq ?_); refine PW.rg rfl fun K hK => ?_; simp (maxSteps := 3000000) (disch := omega) only [go_sem, ↓reduceIte, reduceCtorEq, pappend, plen]; refine hK _ _ ?_; clear hK K
              refine PW.ret ⟨_, rfl, pu_out hi hj hX ?_⟩
              rw [← hres]
              exact ⟨rfl, a5, _, s2, by omega, by rw [setVm_lv]; exact hml3, rfl⟩
            | ok dy a5 =>
              have hb2 := tkS_b h2 hb.2.2
              rw [h2] at t2 hres
              simp only [rvS, Rr.at] at t2
              rw [Rr.bind_ok] at hres
              (repeat refine PW.seq ?_); refine PW.rg rfl fun K hK => ?_; simp (maxSteps := 3000000) (disch := omega) only [go_sem, ↓reduceIte, reduceCtorEq, pappend, plen]; refine VCx.call (t2) rfl ?_; simp (maxSteps := 3000000) (disch := omega) only [go_sem, ↓reduceIte, reduceCtorEq, pappend, plen]; refine hK _ _ ?_; clear hK K
              (repeat refine PW.seq ?_); refine PW.rg rfl fun K hK => ?_; simp (maxSteps := 3000000) (disch := omega) only [go_sem, ↓reduceIte, reduceCtorEq, pappend, plen]; refine hK _ _ ?_; clear hK K
              (repeat refine PW.seq ?_); refine PW.cond (t := _) rfl (fun h => ?_) (fun h => ?_)
              · cases h
              refine PW.skip ?_
              have gy := stc_y s2 d h6
              have sy := mbc_sy m3 d k h6 hk22 x
              have hmx1 := hmx x
              have gvv := mbc_gv m3 d k h6 hk22
              have hmxy : ∀ y, (mbc (setVm m3 d k x y)).length = 408 := fun y => mbc_len _ (by rw [setVm_lv]; exact hml3)
              (repeat refine PW.seq ?_); refine PW.drawt [] [] mix (by kernel_rfl) fun K hK => ?_; simp (maxSteps := 3000000) (disch := omega) only [go_sem, ↓reduceIte, reduceCtorEq, pappend, plen, g4, g5, s4, sB_v, sB_c, mW_v, mW_c, mW_e, gy, sy, hmx1, mW_of]; refine hK _ _ ?_; clear hK K
              have vr1 := fun K => vrg_ref x (sYs s2 d + dy) K
              have evr1 : vrg x (sYs s2 d + dy) = win (sYs s2 d + dy) 63 := by unfold vrg; rw [hwx, Bool.true_and]
              rw [evr1] at vr1
              generalize hyy : sYs s2 d + dy = y at *
              refine PW.at [0, 2, 3, 5, 10, 11] (F1 := [(0, .ptr i 0 0), (2, .ptr (H.length + 4) 1 0), (3, .ptr (H.length + 5) 1 0), (5, .ptr (H.length + 6) 0 0), (10, .int .i64 (d : Int)), (11, .int .i64 (k : Int))]) (H1 := uG H i j v n a5 X (mW (setVm m3 d k x y)) (sB s2) [⟨23, 0, cxc c⟩]) ?_ rfl rfl
              cases hwy : win y 63 with
              | false =>
                rw [hwy] at vr1 hres
                rw [if_neg (by decide)] at hres
                simp only [Rr.bind_er] at hres
                (repeat refine PW.seq ?_); refine PW.rg rfl fun K hK => ?_; simp (maxSteps := 3000000) (disch := omega) only [go_sem, ↓reduceIte, reduceCtorEq, pappend, plen, g4, mW_v, mW_c, gvv, hmxy, Nat.reduceAdd]
                refine VCx.call (vr1 _) rfl ?_; simp (maxSteps := 3000000) (disch := omega) only [go_sem, ↓reduceIte, reduceCtorEq, pappend, plen]; refine hK _ _ ?_; clear hK K
                (repeat refine PW.seq ?_); refine PW.cond (t := _) rfl (fun h => ?_) (fun h => ?_)
                rotate_left
                · cases h
                (repeat refine PW.seq ?_); refine PW.rg rfl fun K hK => ?_; simp (maxSteps := 3000000) (disch := omega) only [go_sem, ↓reduceIte, reduceCtorEq, pappend, plen]; refine hK _ _ ?_; clear hK K
                refine PW.ret ⟨_, rfl, pu_out hi hj hX ?_⟩
                rw [← hres]
                exact ⟨rfl, a5, _, s2, hb2.2.2, by rw [setVm_lv]; exact hml3, rfl⟩
              | true =>
                have hyb := win_b hwy
                rw [hwy] at vr1 hres
                rw [if_pos rfl, Rr.bind_ok, Rr.bind_ok] at hres
                (repeat refine PW.seq ?_); refine PW.rg rfl fun K hK => ?_; simp (maxSteps := 3000000) (disch := omega) only [go_sem, ↓reduceIte, reduceCtorEq, pappend, plen, g4, mW_v, mW_c, gvv, hmxy, Nat.reduceAdd]
                refine VCx.call (vr1 _) rfl ?_; simp (maxSteps := 3000000) (disch := omega) only [go_sem, ↓reduceIte, reduceCtorEq, pappend, plen]; refine hK _ _ ?_; clear hK K
                (repeat refine PW.seq ?_); refine PW.cond (t := _) rfl (fun h => ?_) (fun h => ?_)
                · cases h
                refine PW.skip ?_
                have svv := stc_sv s2 d h6
                have l8 : (stc s2).length = 8 := rfl
                (repeat refine PW.seq ?_); refine PW.drawt [] [] mix (by kernel_rfl) fun K hK => ?_; simp (maxSteps := 3000000) (disch := omega) only [go_sem, ↓reduceIte, reduceCtorEq, pappend, plen, g4, g5, s5, sB_v, sB_c, sB_e, mW_v, mW_c, gvv, hmxy, svv, l8, sB_of, Nat.reduceAdd]; refine hK _ _ ?_; clear hK K
                (repeat refine PW.seq ?_); refine PW.rg rfl fun K hK => ?_; simp (maxSteps := 3000000) (disch := omega) only [go_sem, ↓reduceIte, reduceCtorEq, pappend, plen]; refine hK _ _ ?_; clear hK K
                exact PL.at [0, 2, 3, 5, 10, 11] (hnx2 (setVm m3 d k x y) (setV s2 d x y) a5 (hm3.trans (setVm_same m3 d k x y)) (vrS_setV hs2 d (by omega) (by omega)) hb2.2.2 hres rfl) rfl rfl
end

end Go.Proofs.Ytcabpncdgagihaa.Sc

namespace Go.Proofs.Ytcabpncdgagihaa.Sc
set_option linter.all false
set_option linter.unusedVariables false
set_option linter.unusedSimpArgs false
open Pm Ty Go.RowKit

def tkIn (q : List UInt8) (n : Nat) (m : Mb) (s : St) (k a : Nat) : Rr (Mb × St) := (tkD q n (dcS s (k - 3)) 4095 a).bind fun d a1 => (tkBl q n 1 a1).bind fun l a2 => .ok (setLv m k (l.set 0 d), setD s (k - 3) d) a2
theorem stc_d (s : St) (p : Nat) (h : p < 3) : (stc s)[1 + p]? = some (.int .i64 (dcS s p)) := by
  have : p = 0 ∨ p = 1 ∨ p = 2 := by omega
  rcases this with rfl | rfl | rfl <;> rfl
theorem stc_sd (s : St) (p : Nat) (h : p < 3) (x : Int) : (stc s).set (1 + p) (.int .i64 x) = stc (setD s p x) := by
  have : p = 0 ∨ p = 1 ∨ p = 2 := by omega
  rcases this with rfl | rfl | rfl <;> rfl

section
variable (H : Heap) (i j v : Nat) (q : List UInt8) (n : Nat) (X : Heap) (K : Heap) (hi : i < H.length) (hB : H[j]? = some (rB q v)) (hne : i ≠ j) (hX : X.length = 4) (hn : n ≤ 8 * q.length) (hq : q.length ≤ 100000000)
include hi hB hne hX hn hq
set_option maxHeartbeats 8000000 in
theorem intra_ref (m : Mb) (s : St) (k a : Nat) (hml : m.lv.length = 384) (hs : dcR s) (ha : a ≤ n) (hk : k < 6) : CallEx Try.prog 136 [.ptr i 0 0, .ptr (H.length + 4) 1 0, .ptr (H.length + 5) 1 0, .int .i64 (k : Int)] (uG H i j v n a X (mW m) (sB s) K)
    (fun w H' => match tkIn q n m s k a with
      | .ok y a' => w = .int .i64 0 ∧ H' = uG H i j v n a' X (mW y.1) (sB y.2) K
      | .er e _ => w = ecd e ∧ ∃ a m s, a ≤ n ∧ m.lv.length = 384 ∧ H' = uG H i j v n a X (mW m) (sB s) K) := by
  have hj := (List.getElem?_eq_some_iff.1 hB).1
  have g5 := fun a B4 B5 => uG_5 H i j v n a X B4 B5 K hX
  have g4 := fun a B4 B5 => uG_4 H i j v n a X B4 B5 K hX
  have s5 := fun a B4 B5 B => uG_s5 H i j v n a X B4 B5 K hX B
  have s4 := fun a B4 B5 B => uG_s4 H i j v n a X B4 B5 K hX B
  have gi := fun a B4 B5 => uG_i H i j v n a X B4 B5 K hi
  have gj := fun a B4 B5 => uG_j H i j v n a X B4 B5 K hB hne
  have si := fun a B4 B5 a' => uG_si H i j v n a X B4 B5 K hi a'
  have hlm := mbc_len m hml
  have hzl : z64.length = 64 := by simp [z64]
  have po := fun K => part_ref k K hk
  have lo := fun x K => win_ref x K
  have hq3 : k - 3 < 3 := by omega
  have hsk := hs (k - 3)
  have gd := stc_d s (k - 3) hq3
  have sd := stc_sd s (k - 3) hq3
  have l8 : (stc s).length = 8 := rfl
  have hsL := fun m l => mbc_sL m k l
  have t1 := tksr_ref i j v q n a _ (gi a (mW m) (sB s)) (gj _ _ _) hne ha hn hq
  rw [si] at t1
  generalize hres : tkIn q n m s k a = res
  unfold tkIn tkD at hres
  simp only [show ((4095 : Nat) : Int) = 4095 from rfl] at hres
  refine CallEx.body (F0 := [(0, .ptr i 0 0), (1, .ptr (H.length + 4) 1 0), (2, .ptr (H.length + 5) 1 0), (3, .int .i64 (k : Int))]) Try.func136 rfl Try.ntmps136 Try.results136 rfl (by kernel_rfl) rfl ?_
  (repeat refine PW.seq ?_); refine PW.rg rfl fun K hK => ?_; simp (maxSteps := 3000000) (disch := omega) only [go_sem, ↓reduceIte, reduceCtorEq, pappend, plen]; refine hK _ _ ?_; clear hK K
  cases h1 : tkS q n a with
  | er e a1 =>
    have he := tkS_e h1
    rw [h1] at t1 hres
    simp only [rvS, Rr.at, Rr.bind_er] at t1 hres
    have d0 : ((e : Int) + 1 != 0) = true := by simp; omega
    (repeat refine PW.seq ?_); refine PW.rg rfl fun K hK => ?_; simp (maxSteps := 3000000) (disch := omega) only [go_sem, ↓reduceIte, reduceCtorEq, pappend, plen]; refine VCx.call (t1) rfl ?_; simp (maxSteps := 3000000) (disch := omega) only [go_sem, ↓reduceIte, reduceCtorEq, pappend, plen]; refine hK _ _ ?_; clear hK K
    (repeat refine PW.seq ?_); refine PW.rg rfl fun K hK => ?_; simp (maxSteps := 3000000) (disch := omega) only [go_sem, ↓reduceIte, reduceCtorEq, pappend, plen, d0]; refine hK _ _ ?_; clear hK K
    (repeat refine PW.seq ?_); refine PW.cond (t := _) rfl (fun h => ?_) (fun h => ?_)
    rotate_left
    · cases h
    (repeat refine PW.seq ?_); refine PW.rg rfl fun K hK => ?_; simp (maxSteps := 3000000) (disch := omega) only [go_sem, ↓reduceIte, reduceCtorEq, pappend, plen]; refine hK _ _ ?_; clear hK K
    refine PW.ret ⟨_, rfl, .inl ?_⟩
    rw [← hres]
    exact ⟨rfl, a1, m, s, by omega, hml, rfl⟩
  | ok dx a1 =>
    have hb := tkS_b h1 ha
    rw [h1] at t1 hres
    simp only [rvS, Rr.at] at t1
    rw [Rr.bind_ok] at hres
    (repeat refine PW.seq ?_); refine PW.rg rfl fun K hK => ?_; simp (maxSteps := 3000000) (disch := omega) only [go_sem, ↓reduceIte, reduceCtorEq, pappend, plen]; refine VCx.call (t1) rfl ?_; simp (maxSteps := 3000000) (disch := omega) only [go_sem, ↓reduceIte, reduceCtorEq, pappend, plen]; refine hK _ _ ?_; clear hK K
    (repeat refine PW.seq ?_); refine PW.rg rfl fun K hK => ?_; simp (maxSteps := 3000000) (disch := omega) only [go_sem, ↓reduceIte, reduceCtorEq, pappend, plen]; refine hK _ _ ?_; clear hK K
    (repeat refine PW.seq ?_); refine PW.cond (t := _) rfl (fun h => ?_) (fun h => ?_)
    · cases h
    refine PW.skip ?_
    have po1 := fun K => po K
    (repeat refine PW.seq ?_); refine PW.draw mix (by kernel_rfl) fun K hK => ?_; simp (maxSteps := 3000000) (disch := omega) only [go_sem, ↓reduceIte, reduceCtorEq, pappend, plen]
    refine VCy.call (po1 _) rfl ?_; simp (maxSteps := 3000000) (disch := omega) only [go_sem, ↓reduceIte, reduceCtorEq, pappend, plen, g5, sB_v, sB_c, gd]; refine hK _ _ ?_; clear hK K
    have lo1 := fun K => lo (dcS s (k - 3) + dx) K
    generalize hxx : dcS s (k - 3) + dx = x at *
    cases hwx : win x 4095 with
    | false =>
      rw [hwx] at lo1 hres
      rw [if_neg (by decide)] at hres
      simp only [Rr.bind_er] at hres
      (repeat refine PW.seq ?_); refine PW.rg rfl fun K hK => ?_; simp (maxSteps := 3000000) (disch := omega) only [go_sem, ↓reduceIte, reduceCtorEq, pappend, plen]
      refine VCx.call (lo1 _) rfl ?_; simp (maxSteps := 3000000) (disch := omega) only [go_sem, ↓reduceIte, reduceCtorEq, pappend, plen]; refine hK _ _ ?_; clear hK K
      (repeat refine PW.seq ?_); refine PW.cond (t := _) rfl (fun h => ?_) (fun h => ?_)
      rotate_left
      · cases h
      (repeat refine PW.seq ?_); refine PW.rg rfl fun K hK => ?_; simp (maxSteps := 3000000) (disch := omega) only [go_sem, ↓reduceIte, reduceCtorEq, pappend, plen]; refine hK _ _ ?_; clear hK K
      refine PW.ret ⟨_, rfl, .inl ?_⟩
      rw [← hres]
      exact ⟨rfl, a1, m, s, hb.2.2, hml, rfl⟩
    | true =>
      have hxb := win_b hwx
      rw [hwx] at lo1 hres
      rw [if_pos rfl, Rr.bind_ok] at hres
      (repeat refine PW.seq ?_); refine PW.rg rfl fun K hK => ?_; simp (maxSteps := 3000000) (disch := omega) only [go_sem, ↓reduceIte, reduceCtorEq, pappend, plen]
      refine VCx.call (lo1 _) rfl ?_; simp (maxSteps := 3000000) (disch := omega) only [go_sem, ↓reduceIte, reduceCtorEq, pappend, plen]; refine hK _ _ ?_; clear hK K
      (repeat refine PW.seq ?_); refine PW.cond (t := _) rfl (fun h => ?_) (fun h => ?_)
      · cases h
      refine PW.skip ?_
      (repeat refine PW.seq ?_); refine PW.drawi [H.length + 5] [(2, [0]), (32, [0]), (36, [0]), (37, [0]), (38, [0])] [] [34] mix (by kernel_rfl) (by simp <;> omega) fun K hK => ?_
      simp (maxSteps := 3000000) (disch := omega) only [go_sem, ↓reduceIte, reduceCtorEq, pappend, plen]
      refine VCj.read (fun _ _ => po1 _) rfl ?_; simp (maxSteps := 3000000) (disch := omega) only [go_sem, ↓reduceIte, reduceCtorEq, pappend, plen, g5, s5, sB_v, sB_c, sB_e, sd, l8, sB_of]; refine hK _ _ ?_; clear hK K
      cases hbk : tkBl q n 1 a1 with
      | er e a2 =>
        have hbe := tkB_e _ _ _ _ hbk hb.2.2
        rw [hbk, Rr.bind_er] at hres
        have hil : (is z64).length = 64 := by rw [is_len, hzl]
        have hic := is_cell z64
        have d9 := setLv_len m k z64 hk hzl hml
        have hlm9 := mbc_len _ d9
        have hs0 := mbc_s0 m k z64 x hk hzl hml
        have d8 := setLv_len m k (z64.set 0 x) hk (by rw [List.length_set]; exact hzl) hml
        (repeat refine PW.seq ?_); refine PW.drawi [i, H.length + 4] [(0, [0]), (1, [1]), (40, [1]), (42, [0]), (46, [1]), (47, [1]), (48, [1])] [] [] mix (by kernel_rfl) (by simp <;> omega) fun K hK => ?_
        simp (maxSteps := 3000000) (disch := omega) only [go_sem, ↓reduceIte, reduceCtorEq, pappend, plen]
        refine VCj.wr1 (gi a1 (mW m) (sB (setD s (k - 3) x))) (fun L hL hG => btake_ref i j v q n a1 1 L hL ((hG.out _ (by simp; omega)).trans (gj _ _ _)) hne hb.2.2 hn hq (by omega)) (by simp (maxSteps := 3000000) (disch := omega) only [go_sem, ↓reduceIte, reduceCtorEq, pappend, plen]) (.inl rfl) rfl ?_
        rw [si, hbk]
        simp only [rvB, Rr.at]
        generalize hZ : is z64 = Z at *
        simp (maxSteps := 3000000) (disch := omega) only [go_sem, ↓reduceIte, reduceCtorEq, pappend, plen, g4, s4, mW_v, mW_c, mW_e, hlm, hil, hic]; refine hK _ _ ?_; clear hK K
        rw [← hZ]
        simp only [hsL, mW_of]
        (repeat refine PW.seq ?_); refine PW.rg rfl fun K hK => ?_; simp (maxSteps := 3000000) (disch := omega) only [go_sem, ↓reduceIte, reduceCtorEq, pappend, plen, g4, s4, mW_v, mW_c, mW_e, hlm9, hs0, mW_of]; refine hK _ _ ?_; clear hK K
        (repeat refine PW.seq ?_); refine PW.rg rfl fun K hK => ?_; simp (maxSteps := 3000000) (disch := omega) only [go_sem, ↓reduceIte, reduceCtorEq, pappend, plen]; refine hK _ _ ?_; clear hK K
        refine PW.ret ⟨_, rfl, .inl ?_⟩
        rw [← hres]
        exact ⟨rfl, a2, _, _, by omega, d8, rfl⟩
      | ok l a2 =>
        have hbo := tkB_b _ _ _ _ hbk hb.2.2
        have hll : l.length = 64 := by rw [hbo.2.2, hzl]
        rw [hbk, Rr.bind_ok] at hres
        have hil : (is l).length = 64 := by rw [is_len, hll]
        have hic := is_cell l
        have d9 := setLv_len m k l hk hll hml
        have hlm9 := mbc_len _ d9
        have hs0 := mbc_s0 m k l x hk hll hml
        (repeat refine PW.seq ?_); refine PW.drawi [i, H.length + 4] [(0, [0]), (1, [1]), (40, [1]), (42, [0]), (46, [1]), (47, [1]), (48, [1])] [] [] mix (by kernel_rfl) (by simp <;> omega) fun K hK => ?_
        simp (maxSteps := 3000000) (disch := omega) only [go_sem, ↓reduceIte, reduceCtorEq, pappend, plen]
        refine VCj.wr1 (gi a1 (mW m) (sB (setD s (k - 3) x))) (fun L hL hG => btake_ref i j v q n a1 1 L hL ((hG.out _ (by simp; omega)).trans (gj _ _ _)) hne hb.2.2 hn hq (by omega)) (by simp (maxSteps := 3000000) (disch := omega) only [go_sem, ↓reduceIte, reduceCtorEq, pappend, plen]) (.inl rfl) rfl ?_
        rw [si, hbk]
        simp only [rvB, Rr.at]
        simp (maxSteps := 3000000) (disch := omega) only [go_sem, ↓reduceIte, reduceCtorEq, pappend, plen, g4, s4, mW_v, mW_c, mW_e, hlm, hil, hic]; refine hK _ _ ?_; clear hK K
        simp only [hsL, mW_of]
        (repeat refine PW.seq ?_); refine PW.rg rfl fun K hK => ?_; simp (maxSteps := 3000000) (disch := omega) only [go_sem, ↓reduceIte, reduceCtorEq, pappend, plen, g4, s4, mW_v, mW_c, mW_e, hlm9, hs0, mW_of]; refine hK _ _ ?_; clear hK K
        (repeat refine PW.seq ?_); refine PW.rg rfl fun K hK => ?_; simp (maxSteps := 3000000) (disch := omega) only [go_sem, ↓reduceIte, reduceCtorEq, pappend, plen]; refine hK _ _ ?_; clear hK K
        refine PW.ret ⟨_, rfl, .inl ?_⟩
        rw [← hres]
        exact ⟨rfl, rfl⟩
end

end Go.Proofs.Ytcabpncdgagihaa.Sc
