/-
  Contracts of chapter 10: the state at a slice's beginning; the law 'MacroblockFormed'.
-/
import Derived.Test.YtnjnikafhbholaaGj
import Derived.Test.YtnjnikafhbholaaAx
namespace Go.Proofs.Ytnjnikafhbholaa.Sc
set_option linter.all false
set_option linter.unusedVariables false
set_option linter.unusedSimpArgs false
open Pm Ty Go.RowKit

/-- A state: the quantiser, three DC values, two vectors. -/
structure St where
  q : Int
  da : Int
  db : Int
  dc : Int
  va : Int
  vb : Int
  vc : Int
  vd : Int
def stc (s : St) : List PV := [.int .i64 s.q, .int .i64 s.da, .int .i64 s.db, .int .i64 s.dc, .int .i64 s.va, .int .i64 s.vb, .int .i64 s.vc, .int .i64 s.vd]
def st0 (q : Int) : St := ⟨q, 0, 0, 0, 0, 0, 0, 0⟩
theorem stc_scoped (s : St) (n : Nat) : Scoped n (.agg (stc s)) := ag_scoped fun x hx => by
  simp only [stc, List.mem_cons, List.not_mem_nil, or_false] at hx
  rcases hx with rfl | rfl | rfl | rfl | rfl | rfl | rfl | rfl <;> exact .int _ _
theorem start_ok (q : Int) (H : Heap) : CallOk Try.prog 56 [.int .i64 q] H (.agg (stc (st0 q))) H := by
  refine CallOk.body (F0 := [(0, .int .i64 q)]) Try.func56 rfl Try.ntmps56 Try.results56 rfl (by kernel_rfl) rfl ?_
  (repeat refine PW.seq ?_); refine PW.rg rfl fun K hK => ?_; simp (maxSteps := 3000000) (disch := omega) only [go_sem, ↓reduceIte, reduceCtorEq, pappend, plen]; refine hK _ _ ?_; clear hK K
  (repeat refine PW.seq ?_); refine PW.rg rfl fun K hK => ?_; simp (maxSteps := 3000000) (disch := omega) only [go_sem, ↓reduceIte, reduceCtorEq, pappend, plen]; refine hK _ _ ?_; clear hK K
  refine PW.ret ⟨.agg [.int .i64 q, .int .i64 0, .int .i64 0, .int .i64 0, .int .i64 0, .int .i64 0, .int .i64 0, .int .i64 0], by simp (maxSteps := 3000000) (disch := omega) only [go_sem, ↓reduceIte, reduceCtorEq, pappend, plen, presults, presult, List.mapM_cons, List.mapM_nil, Option.pure_def, Option.bind_eq_bind, Option.bind_some, Array.toList], ?_⟩
  exact Fin.base (.id (stc_scoped (st0 q) _))
theorem eqSt (q : Int) : peqG Try.prog .eql 113 (.agg [.int .i64 q, .int .i64 0, .int .i64 0, .int .i64 0, .int .i64 0, .int .i64 0, .int .i64 0, .int .i64 0]) (.agg [.int .i64 q, .int .i64 0, .int .i64 0, .int .i64 0, .int .i64 0, .int .i64 0, .int .i64 0, .int .i64 0]) = some (.bool ((q == q) && true)) := by kernel_rfl

set_option maxHeartbeats 3200000 in
set_option maxRecDepth 10000 in
theorem law_formed (c : Cx) (m : Mb) (q : Int) (H : Heap) (hl : m.lv.length = 384) : CallOk Try.prog 13 [.agg (cxc c), .agg (mbc m), .int .i64 q] H (.bool true) H := by
  have so := fun H => samec_ok c H
  have vo := fun H => vcx_ok c H
  have vr := fun H => vcx_ref c H
  have fo := fun H => fm_ok c m H hl
  have fr := fun H => fm_ref c m H hl
  have hall := is_cell m.lv
  have htk : List.take 408 (mbc m) = mbc m := List.take_of_length_le (by rw [mbc_len m hl]; omega)
  have hcm : (mbc m).all PV.cell = true := by
    simp [mbc, PV.cell]
    exact fun x hx => List.all_eq_true.1 hall x hx
  have hcl : (mbc m).length = 408 := mbc_len m hl
  generalize fmS c m = fv at fo fr
  generalize vcx c = vv at vo vr
  generalize mbc m = ml at *
  obtain ⟨t, s, ii, n⟩ := c
  refine CallOk.body (F0 := [(0, .agg [.int .i64 t, .int .i64 s, .bool ii, .bool n]), (1, .agg ml), (2, .int .i64 q)]) Try.func13 rfl Try.ntmps13 Try.results13 rfl (by kernel_rfl) rfl ?_
  (repeat refine PW.seq ?_); refine PW.rg rfl fun K hK => ?_; simp (maxSteps := 3000000) (disch := omega) only [go_sem, ↓reduceIte, reduceCtorEq, pappend, plen, hcm]; refine hK _ _ ?_; clear hK K
  (repeat refine PW.seq ?_); refine PW.draw mix (by kernel_rfl) fun K hK => ?_; simp (maxSteps := 3000000) (disch := omega) only [go_sem, ↓reduceIte, reduceCtorEq, pappend, plen, hcl, htk]
  (repeat' (first | ((first | refine VO_cond (fun h => ?_) (fun h => ?_) | refine VOd_cond (fun h => ?_) (fun h => ?_) | refine VOg_cond (fun h => ?_) (fun h => ?_) | refine VOh_cond (fun h => ?_) (fun h => ?_) | refine VOi_cond (fun h => ?_) (fun h => ?_) | refine And.intro (fun h => ?_) (fun h => ?_)) <;> (try simp only [Bool.not_eq_true', Bool.not_eq_false', decide_eq_true_eq, decide_eq_false_iff_not] at h) <;> simp (maxSteps := 3000000) (disch := omega) only [go_sem, ↓reduceIte, reduceCtorEq, pappend, plen, hcl, htk, bne_self_eq_false, h]) | (refine VCx.call (so _) rfl ?_; simp (maxSteps := 3000000) (disch := omega) only [go_sem, ↓reduceIte, reduceCtorEq, pappend, plen, hcl, htk, bne_self_eq_false]) | (refine VCx.call (vo _) rfl ?_; simp (maxSteps := 3000000) (disch := omega) only [go_sem, ↓reduceIte, reduceCtorEq, pappend, plen, hcl, htk, bne_self_eq_false]) | (refine VCx.call (vr _) rfl ?_; simp (maxSteps := 3000000) (disch := omega) only [go_sem, ↓reduceIte, reduceCtorEq, pappend, plen, hcl, htk, bne_self_eq_false]) | (refine VCx.call (fo _) rfl ?_; simp (maxSteps := 3000000) (disch := omega) only [go_sem, ↓reduceIte, reduceCtorEq, pappend, plen, hcl, htk, bne_self_eq_false]) | (refine VCx.call (fr _) rfl ?_; simp (maxSteps := 3000000) (disch := omega) only [go_sem, ↓reduceIte, reduceCtorEq, pappend, plen, hcl, htk, bne_self_eq_false]) | (refine VCy.call (so _) rfl ?_; simp (maxSteps := 3000000) (disch := omega) only [go_sem, ↓reduceIte, reduceCtorEq, pappend, plen, hcl, htk, bne_self_eq_false]) | (refine VCy.call (vo _) rfl ?_; simp (maxSteps := 3000000) (disch := omega) only [go_sem, ↓reduceIte, reduceCtorEq, pappend, plen, hcl, htk, bne_self_eq_false]) | (refine VCy.call (vr _) rfl ?_; simp (maxSteps := 3000000) (disch := omega) only [go_sem, ↓reduceIte, reduceCtorEq, pappend, plen, hcl, htk, bne_self_eq_false]) | (refine VCy.call (fo _) rfl ?_; simp (maxSteps := 3000000) (disch := omega) only [go_sem, ↓reduceIte, reduceCtorEq, pappend, plen, hcl, htk, bne_self_eq_false]) | (refine VCy.call (fr _) rfl ?_; simp (maxSteps := 3000000) (disch := omega) only [go_sem, ↓reduceIte, reduceCtorEq, pappend, plen, hcl, htk, bne_self_eq_false]) | (refine VCz.call (fun _ => so _) rfl ?_; simp (maxSteps := 3000000) (disch := omega) only [go_sem, ↓reduceIte, reduceCtorEq, pappend, plen, hcl, htk, bne_self_eq_false]) | (refine VCz.call (fun _ => vo _) rfl ?_; simp (maxSteps := 3000000) (disch := omega) only [go_sem, ↓reduceIte, reduceCtorEq, pappend, plen, hcl, htk, bne_self_eq_false]) | (refine VCz.call (fun _ => vr _) rfl ?_; simp (maxSteps := 3000000) (disch := omega) only [go_sem, ↓reduceIte, reduceCtorEq, pappend, plen, hcl, htk, bne_self_eq_false]) | (refine VCz.call (fun _ => fo _) rfl ?_; simp (maxSteps := 3000000) (disch := omega) only [go_sem, ↓reduceIte, reduceCtorEq, pappend, plen, hcl, htk, bne_self_eq_false]) | (refine VCz.call (fun _ => fr _) rfl ?_; simp (maxSteps := 3000000) (disch := omega) only [go_sem, ↓reduceIte, reduceCtorEq, pappend, plen, hcl, htk, bne_self_eq_false]) | (refine VCk.call (fun _ _ => so _) rfl ?_; simp (maxSteps := 3000000) (disch := omega) only [go_sem, ↓reduceIte, reduceCtorEq, pappend, plen, hcl, htk, bne_self_eq_false]) | (refine VCk.call (fun _ _ => vo _) rfl ?_; simp (maxSteps := 3000000) (disch := omega) only [go_sem, ↓reduceIte, reduceCtorEq, pappend, plen, hcl, htk, bne_self_eq_false]) | (refine VCk.call (fun _ _ => vr _) rfl ?_; simp (maxSteps := 3000000) (disch := omega) only [go_sem, ↓reduceIte, reduceCtorEq, pappend, plen, hcl, htk, bne_self_eq_false]) | (refine VCk.call (fun _ _ => fo _) rfl ?_; simp (maxSteps := 3000000) (disch := omega) only [go_sem, ↓reduceIte, reduceCtorEq, pappend, plen, hcl, htk, bne_self_eq_false]) | (refine VCk.call (fun _ _ => fr _) rfl ?_; simp (maxSteps := 3000000) (disch := omega) only [go_sem, ↓reduceIte, reduceCtorEq, pappend, plen, hcl, htk, bne_self_eq_false]) | (refine VCj.now (so _) rfl ?_; simp (maxSteps := 3000000) (disch := omega) only [go_sem, ↓reduceIte, reduceCtorEq, pappend, plen, hcl, htk, bne_self_eq_false]) | (refine VCj.now (vo _) rfl ?_; simp (maxSteps := 3000000) (disch := omega) only [go_sem, ↓reduceIte, reduceCtorEq, pappend, plen, hcl, htk, bne_self_eq_false]) | (refine VCj.now (vr _) rfl ?_; simp (maxSteps := 3000000) (disch := omega) only [go_sem, ↓reduceIte, reduceCtorEq, pappend, plen, hcl, htk, bne_self_eq_false]) | (refine VCj.now (fo _) rfl ?_; simp (maxSteps := 3000000) (disch := omega) only [go_sem, ↓reduceIte, reduceCtorEq, pappend, plen, hcl, htk, bne_self_eq_false]) | (refine VCj.now (fr _) rfl ?_; simp (maxSteps := 3000000) (disch := omega) only [go_sem, ↓reduceIte, reduceCtorEq, pappend, plen, hcl, htk, bne_self_eq_false])))
  refine hK _ _ ?_
  clear hK K so vo vr fo fr hall htk hcm
  (repeat refine PW.seq ?_); refine PW.cond (t := _) rfl (fun h => ?_) (fun h => ?_)
  · exfalso
    simp at h
  clear h
  refine PW.skip ?_
  (repeat refine PW.seq ?_); refine PW.rg rfl fun K hK => ?_
  simp (maxSteps := 3000000) (disch := omega) only [go_sem, ↓reduceIte, reduceCtorEq, pappend, plen]
  refine VCx.call (awake10 _) rfl ?_
  simp (maxSteps := 3000000) (disch := omega) only [go_sem, ↓reduceIte, reduceCtorEq, pappend, plen]
  refine VCx.call (start_ok q _) rfl ?_
  simp only [stc, st0]
  simp (maxSteps := 3000000) (disch := omega) only [go_sem, ↓reduceIte, reduceCtorEq, pappend, plen, ↓eqSt, beq_self_eq_true]
  refine hK _ _ ?_
  clear hK K
  (refine PW.ret ⟨_, rfl, ?_⟩; first | refine .inl ⟨?_, rfl⟩ | refine Fin.base (.id' ?_ (.bool _)) | refine Fin.base (.id' ?_ (.int _ _)))
  simp [slot, Nat.beq]

end Go.Proofs.Ytnjnikafhbholaa.Sc
