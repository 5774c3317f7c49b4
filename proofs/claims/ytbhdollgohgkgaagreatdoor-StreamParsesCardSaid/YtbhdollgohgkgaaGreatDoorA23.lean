/-
  Parts of the proof. No condition.
-/
import Derived.Test.YtbhdollgohgkgaaGreatDoorA21
import Derived.Test.YtbhdollgohgkgaaGreatDoorA22
namespace Go.Proofs.YtbhdollgohgkgaaGreatDoor.Sc
set_option linter.all false
set_option linter.unusedVariables false
set_option linter.unusedSimpArgs false
open Pm Ty S3 Go.RowKit

theorem hscX {A L L' : Heap} (h : HSc (A ++ L)) (hl : L'.length = L.length) (hn : ∀ b ∈ L', b ∈ L ∨ ∀ x ∈ b.cells, Scoped (A.length + L.length) x) : HSc (A ++ L') := fun id k hk x hx => by
  rw [List.length_append, hl]
  have hs : (A ++ L).length = A.length + L.length := List.length_append
  by_cases hid : id < A.length
  · have h1 : (A ++ L)[id]? = some k := by
      rw [List.getElem?_append_left hid] at hk ⊢
      exact hk
    have := h id k h1 x hx
    rw [hs] at this; exact this
  · rw [List.getElem?_append_right (by omega)] at hk
    rcases hn k (List.mem_of_getElem? hk) with hm | hm
    · obtain ⟨j, hj⟩ := List.getElem?_of_mem hm
      have h1 : (A ++ L)[A.length + j]? = some k := by rw [List.getElem?_append_right (by omega), Nat.add_sub_cancel_left]; exact hj
      have := h _ k h1 x hx
      rw [hs] at this; exact this
    · exact hm x hx
theorem prB_sc (n j N : Nat) (np : Int) (op : Bool) (h : j + 1 < n) : ∀ x ∈ (prB j N np op).cells, Scoped n x := fun x hx => by
  simp only [prB, List.mem_cons, List.not_mem_nil, or_false] at hx
  rcases hx with rfl | rfl | rfl
  · exact .msl h
  · exact .int _ _
  · exact .bool _
theorem itP_sc (n : Nat) (pre : List It) (x : It) (a b : PV) (ha : Scoped n a) (hb : Scoped n b) : ∀ y ∈ itL pre ++ itq x a b, Scoped n y := fun y hy => by
  rcases List.mem_append.1 hy with hy | hy
  · exact itL_sc _ _ y hy
  · exact itq_sc n x a b ha hb y hy
theorem ucB_sc (n : Nat) (U : List (List UInt8)) : ∀ x ∈ U.flatMap usr1, Scoped n x := fun x hx => by
  obtain ⟨u, _, hu⟩ := List.mem_flatMap.1 hx
  simp only [usr1, List.mem_singleton] at hu
  rw [hu]; exact sl_scoped (bs_scoped _ _)
theorem usT_sc (n : Nat) (u : List UInt8) : Scoped n (usT u) := sl_scoped (bs_scoped _ _)

/-! ### a picture is open -/
set_option maxHeartbeats 8000000 in
set_option maxRecDepth 100000 in
theorem accU_ok (A : Heap) (pre : List It) (x : It) (np : Int) (q : List UInt8) (S k1 : Blk) (b : PV) (hx : SqOk x.s) (hp : ∀ y ∈ pre, SqOk y.s) (hn : pre.length ≤ 2000000) (hU : x.U.length ≤ 2000000) (hq : q.length ≤ 2000000) (hb : ∀ n, A.length + 4 ≤ n → Scoped n b) :
    CallOk Tryz.prog 10 [.ptr A.length 0 0, .agg [.int .i64 178, .slice (bs q) q.length false]]
      (A ++ [prB A.length (pre.length + 1) np true, imB (pre.length + 1) (itL pre ++ itq x (mU A.length x.U.length) b), ucB x.U.length (x.U.flatMap usr1), S, k1]) (.bool (usB q))
      (if usB q then A ++ [prB A.length (pre.length + 1) np true, imB (pre.length + 1) (itL pre ++ itq x (mU A.length (x.U.length + 1)) b), ucB (x.U.length + 1) (x.U.flatMap usr1 ++ [usT (q.take (q.length - 1))]), S, k1]
        else A ++ [prB A.length (pre.length + 1) np true, imB (pre.length + 1) (itL pre ++ itq x (mU A.length x.U.length) b), ucB x.U.length (x.U.flatMap usr1), S, k1]) := by
  have uo := user_ok A pre x np q false S k1 ⟨41, 0, [.int .i64 178, .slice (bs q) q.length false]⟩ b hx hp hn hU hq
  refine CallOk.body (F0 := [(0, .ptr A.length 0 0), (1, .agg [.int .i64 178, .slice (bs q) q.length false])]) Tryz.func10 rfl Tryz.ntmps10 Tryz.results10 rfl (by kernel_rfl) rfl ?_
  (repeat refine PW.seq ?_); refine PW.rg rfl fun K hK => ?_; simp (maxSteps := 3000000) (disch := omega) only [go_sem, ↓reduceIte, reduceCtorEq, pappend, plen]; refine hK _ _ ?_; clear hK K
  (repeat refine PW.seq ?_); refine PW.block ?_
  (repeat refine PW.seq ?_); refine PW.rg rfl fun K hK => ?_; simp (maxSteps := 3000000) (disch := omega) only [go_sem, ↓reduceIte, reduceCtorEq, pappend, plen]; refine hK _ _ ?_; clear hK K
  (repeat refine PW.seq ?_); refine PW.cond (t := _) rfl (fun h => ?_) (fun h => ?_)
  rotate_left
  · cases h
  cases hu : usB q with
  | false =>
    rw [hu] at uo
    simp only [Bool.false_eq_true, if_false] at uo ⊢
    (repeat refine PW.seq ?_); refine PW.rg rfl fun K hK => ?_; simp (maxSteps := 3000000) (disch := omega) only [go_sem, ↓reduceIte, reduceCtorEq, pappend, plen]; refine VCx.call (uo) rfl ?_; simp (maxSteps := 3000000) (disch := omega) only [go_sem, ↓reduceIte, reduceCtorEq, pappend, plen]; refine hK _ _ ?_; clear hK K
    refine PW.ret ⟨.bool false, by simp (maxSteps := 3000000) (disch := omega) only [go_sem, ↓reduceIte, reduceCtorEq, pappend, plen, presults, presult, List.mapM_cons, List.mapM_nil, Option.pure_def, Option.bind_eq_bind, Option.bind_some, Array.toList], ?_⟩
    exact Fin.cut (K := [⟨41, 0, [.int .i64 178, .slice (bs q) q.length false]⟩]) (by simp) rfl (fun h => h) (.id (.bool _))
  | true =>
    rw [hu] at uo
    simp only [if_true] at uo ⊢
    (repeat refine PW.seq ?_); refine PW.rg rfl fun K hK => ?_; simp (maxSteps := 3000000) (disch := omega) only [go_sem, ↓reduceIte, reduceCtorEq, pappend, plen]; refine VCx.call (uo) rfl ?_; simp (maxSteps := 3000000) (disch := omega) only [go_sem, ↓reduceIte, reduceCtorEq, pappend, plen]; refine hK _ _ ?_; clear hK K
    refine PW.ret ⟨.bool true, by simp (maxSteps := 3000000) (disch := omega) only [go_sem, ↓reduceIte, reduceCtorEq, pappend, plen, presults, presult, List.mapM_cons, List.mapM_nil, Option.pure_def, Option.bind_eq_bind, Option.bind_some, Array.toList], ?_⟩
    refine Fin.cut (K := [⟨41, 0, [.int .i64 178, .slice (bs q) q.length false]⟩]) (by simp) (by simp) (fun h => hscX h rfl fun c hc => ?_) (.id (.bool _))
    simp only [List.mem_cons, List.not_mem_nil, or_false] at hc
    rcases hc with rfl | rfl | rfl | rfl | rfl
    · exact .inl (by simp)
    · exact .inr (itP_sc _ pre x _ _ (.msl (by simp)) (hb _ (by simp)))
    · refine .inr fun y hy => ?_
      rcases List.mem_append.1 hy with hy | hy
      · exact ucB_sc _ _ y hy
      · rw [List.mem_singleton] at hy; rw [hy]; exact usT_sc _ _
    · exact .inl (by simp)
    · exact .inl (by simp)

set_option maxHeartbeats 8000000 in
set_option maxRecDepth 100000 in
theorem accS_ok (A : Heap) (pre : List It) (x : It) (np : Int) (t : Int) (q : List UInt8) (U k1 : Blk) (a : PV) (ht : 1 ≤ t ∧ t < 5) (hx : SqOk x.s) (hp : ∀ y ∈ pre, SqOk y.s) (hn : pre.length ≤ 2000000) (hU : x.us.length ≤ 2000000) (hq : q.length ≤ 2000000) (ha : ∀ n, A.length + 4 ≤ n → Scoped n a) :
    CallOk Tryz.prog 10 [.ptr A.length 0 0, .agg [.int .i64 t, .slice (bs q) q.length false]]
      (A ++ [prB A.length (pre.length + 1) np true, imB (pre.length + 1) (itL pre ++ itq x a (mS A.length x.us.length)), U, scB x.us, k1]) (.bool true)
      (A ++ [prB A.length (pre.length + 1) np true, imB (pre.length + 1) (itL pre ++ itq x a (mS A.length (x.us.length + 1))), U, scB (x.us ++ [(t, q)]), k1]) := by
  have F := iqF pre x a (mS A.length x.us.length) hp hx
  have eN : ((pre.length + 1 : Nat) : Int) - 1 = (pre.length : Int) := by omega
  have ul := uq_len x.us
  have io := fun K => usl_ok t K
  rw [decide_eq_true ht.1, decide_eq_true ht.2, Bool.true_and] at io
  have d1 : (t == 178) = false := by simp; omega
  refine CallOk.body (F0 := [(0, .ptr A.length 0 0), (1, .agg [.int .i64 t, .slice (bs q) q.length false])]) Tryz.func10 rfl Tryz.ntmps10 Tryz.results10 rfl (by kernel_rfl) rfl ?_
  (repeat refine PW.seq ?_); refine PW.rg rfl fun K hK => ?_; simp (maxSteps := 3000000) (disch := omega) only [go_sem, ↓reduceIte, reduceCtorEq, pappend, plen]; refine hK _ _ ?_; clear hK K
  (repeat refine PW.seq ?_); refine PW.block ?_
  (repeat refine PW.seq ?_); refine PW.rg rfl fun K hK => ?_; simp (maxSteps := 3000000) (disch := omega) only [go_sem, ↓reduceIte, reduceCtorEq, pappend, plen, d1]; refine hK _ _ ?_; clear hK K
  (repeat refine PW.seq ?_); refine PW.cond (t := _) rfl (fun h => ?_) (fun h => ?_)
  · cases h
  (repeat refine PW.seq ?_); refine PW.rg rfl fun K hK => ?_; simp (maxSteps := 3000000) (disch := omega) only [go_sem, ↓reduceIte, reduceCtorEq, pappend, plen]; refine VCx.call (io _) rfl ?_; simp (maxSteps := 3000000) (disch := omega) only [go_sem, ↓reduceIte, reduceCtorEq, pappend, plen]; refine hK _ _ ?_; clear hK K
  (repeat refine PW.seq ?_); refine PW.cond (t := _) rfl (fun h => ?_) (fun h => ?_)
  rotate_left
  · cases h
  (repeat refine PW.seq ?_); refine PW.rg rfl fun K hK => ?_; simp (maxSteps := 3000000) (disch := omega) only [go_sem, ↓reduceIte, reduceCtorEq, pappend, plen, prB]; refine hK _ _ ?_; clear hK K
  (repeat refine PW.seq ?_); refine PW.cond (t := _) rfl (fun h => ?_) (fun h => ?_)
  rotate_left
  · cases h
  have fu : (itL pre ++ itq x a (.msl (A.length + 3) (x.us.length * 2) 0 x.us.length 2 true))[pre.length * 148 + 139 + 7]? = some (.msl (A.length + 3) (x.us.length * 2) 0 x.us.length 2 true) := F.s
  have fs : ∀ v, (itL pre ++ itq x a (.msl (A.length + 3) (x.us.length * 2) 0 x.us.length 2 true)).set (pre.length * 148 + 139 + 7) v = itL pre ++ itq x a v := F.ss
  have fl : (itL pre ++ itq x a (.msl (A.length + 3) (x.us.length * 2) 0 x.us.length 2 true)).length = (pre.length + 1) * 148 := F.ln
  (repeat refine PW.seq ?_); refine PW.drawg mix (by kernel_rfl) fun K hK => ?_; simp (maxSteps := 3000000) (disch := omega) only [go_sem, ↓reduceIte, reduceCtorEq, pappend, plen, prB, imB, eN, F.ln]; refine hK _ _ ?_; clear hK K
  (repeat refine PW.seq ?_); refine PW.drawi [A.length + 1, A.length + 3] [(5, [0]), (36, [0]), (37, [0]), (38, [0]), (39, [0]), (44, [0]), (45, [0]), (40, [1]), (43, [1])] [] [] mix (by kernel_rfl) (by simp <;> omega) fun K hK => ?_
  simp (maxSteps := 3000000) (disch := omega) only [go_sem, ↓reduceIte, reduceCtorEq, pappend, plen, prB, imB, scB, mS, fl, fu, fs, ul, length_bs, Option.toArray_none, Option.toArray_some]
  refine hK _ _ ?_; clear hK K
  (repeat refine PW.seq ?_); refine PW.rg rfl fun K hK => ?_; simp (maxSteps := 3000000) (disch := omega) only [go_sem, ↓reduceIte, reduceCtorEq, pappend, plen, prB]; refine hK _ _ ?_; clear hK K
  refine PW.ret ⟨.bool true, by simp (maxSteps := 3000000) (disch := omega) only [go_sem, ↓reduceIte, reduceCtorEq, pappend, plen, presults, presult, List.mapM_cons, List.mapM_nil, Option.pure_def, Option.bind_eq_bind, Option.bind_some, Array.toList], ?_⟩
  have hus : uq (x.us ++ [(t, q)]) = uq x.us ++ [.int .i64 t, .slice (bs q) q.length false] := by simp [uq, uq1]
  have e1 : (uq x.us ++ [PV.int .i64 t, PV.slice (bs q) q.length false]).length = (x.us.length + 1) * 2 := by rw [← hus, uq_len]; simp
  have e2 : (x.us ++ [(t, q)]).length = x.us.length + 1 := by simp
  rw [e1]
  refine Fin.cut (K := [⟨41, 0, [.int .i64 t, .slice (bs q) q.length false]⟩]) (by unfold prB imB scB mS; rw [e2, hus, List.append_assoc]; rfl) (by simp) (fun h => hscX h rfl fun c hc => ?_) (.id (.bool _))
  simp only [List.mem_cons, List.not_mem_nil, or_false] at hc
  rcases hc with rfl | rfl | rfl | rfl | rfl
  · exact .inl (by simp)
  · exact .inr (itP_sc _ pre x _ _ (ha _ (by simp)) (.msl (by simp)))
  · exact .inl (by simp)
  · exact .inr (uq_sc _ _)
  · exact .inl (by simp)

/-! ### a unit that begins nothing -/
set_option maxHeartbeats 4000000 in
set_option maxRecDepth 100000 in
theorem accK_ok (p : PV) (t : Int) (q : List UInt8) (H : Heap) (hq : q.length ≤ 1000000) (h1 : ¬ t = 178) (h2 : ¬ (1 ≤ t ∧ t < 5)) (h0 : (bgn t q).1.k = 0) : CallOk Tryz.prog 10 [p, .agg [.int .i64 t, .slice (bs q) q.length false]] H (.bool false) H := by
  have io := fun K => usl_ok t K
  have e2 : (decide (1 ≤ t) && decide (t < 5)) = false := by
    cases h : (decide (1 ≤ t) && decide (t < 5)) with
    | false => rfl
    | true => simp only [Bool.and_eq_true, decide_eq_true_eq] at h; exact absurd h h2
  rw [e2] at io
  have bo := fun K => begin_ok t q K hq
  have zl := itq_len (bgn t q).1 nl0 nl0 bgn_ok.1
  have zc := itq_cell (bgn t q).1 nl0 nl0 rfl rfl
  have zt : List.take 148 (itq (bgn t q).1 nl0 nl0) = itq (bgn t q).1 nl0 nl0 := List.take_of_length_le (by omega)
  have zk : (itq (bgn t q).1 nl0 nl0)[0]? = some (.int .i64 0) := by rw [← h0]; rfl
  generalize itq (bgn t q).1 nl0 nl0 = Z at *
  generalize (bgn t q).2 = e at *
  have d1 : (t == 178) = false := by simpa using h1
  have fin : ∀ K : Heap, Fin H (.bool false) H (.bool false) (H ++ K) := fun K => Fin.base (.id (.bool _))
  refine CallOk.body (F0 := [(0, p), (1, .agg [.int .i64 t, .slice (bs q) q.length false])]) Tryz.func10 rfl Tryz.ntmps10 Tryz.results10 rfl (by kernel_rfl) rfl ?_
  (repeat refine PW.seq ?_); refine PW.rg rfl fun K hK => ?_; simp (maxSteps := 3000000) (disch := omega) only [go_sem, ↓reduceIte, reduceCtorEq, pappend, plen]; refine hK _ _ ?_; clear hK K
  (repeat refine PW.seq ?_); refine PW.block ?_
  (repeat refine PW.seq ?_); refine PW.rg rfl fun K hK => ?_; simp (maxSteps := 3000000) (disch := omega) only [go_sem, ↓reduceIte, reduceCtorEq, pappend, plen, d1]; refine hK _ _ ?_; clear hK K
  (repeat refine PW.seq ?_); refine PW.cond (t := _) rfl (fun h => ?_) (fun h => ?_)
  · cases h
  (repeat refine PW.seq ?_); refine PW.rg rfl fun K hK => ?_; simp (maxSteps := 3000000) (disch := omega) only [go_sem, ↓reduceIte, reduceCtorEq, pappend, plen]; refine VCx.call (io _) rfl ?_; simp (maxSteps := 3000000) (disch := omega) only [go_sem, ↓reduceIte, reduceCtorEq, pappend, plen]; refine hK _ _ ?_; clear hK K
  (repeat refine PW.seq ?_); refine PW.cond (t := _) rfl (fun h => ?_) (fun h => ?_)
  · cases h
  refine PW.skip ?_
  (repeat refine PW.seq ?_); refine PW.rg rfl fun K hK => ?_; simp (maxSteps := 3000000) (disch := omega) only [go_sem, ↓reduceIte, reduceCtorEq, pappend, plen, zl, zc, zt]; refine VCx.call (bo _) rfl ?_; simp (maxSteps := 3000000) (disch := omega) only [go_sem, ↓reduceIte, reduceCtorEq, pappend, plen, zl, zc, zt]; refine hK _ _ ?_; clear hK K
  (repeat refine PW.seq ?_); refine PW.rg rfl fun K hK => ?_; simp (maxSteps := 3000000) (disch := omega) only [go_sem, ↓reduceIte, reduceCtorEq, pappend, plen, zl, zk]; refine hK _ _ ?_; clear hK K
  (repeat refine PW.seq ?_); refine PW.cond (t := _) rfl (fun h => ?_) (fun h => ?_)
  · cases h
  refine PW.skip ?_
  (repeat refine PW.seq ?_); refine PW.rg rfl fun K hK => ?_; simp (maxSteps := 3000000) (disch := omega) only [go_sem, ↓reduceIte, reduceCtorEq, pappend, plen, zl, zk]; refine hK _ _ ?_; clear hK K
  (repeat refine PW.seq ?_); refine PW.cond (t := _) rfl (fun h => ?_) (fun h => ?_)
  rotate_left
  · cases h
  (repeat refine PW.seq ?_); refine PW.rg rfl fun K hK => ?_; simp (maxSteps := 3000000) (disch := omega) only [go_sem, ↓reduceIte, reduceCtorEq, pappend, plen]; refine hK _ _ ?_; clear hK K
  refine PW.ret ⟨.bool false, by simp (maxSteps := 3000000) (disch := omega) only [go_sem, ↓reduceIte, reduceCtorEq, pappend, plen, presults, presult, List.mapM_cons, List.mapM_nil, Option.pure_def, Option.bind_eq_bind, Option.bind_some, Array.toList], ?_⟩
  exact fin _

/-! ### no picture's slices stand in memory -/
set_option maxHeartbeats 4000000 in
set_option maxRecDepth 100000 in
theorem user_cl (A : Heap) (N : Nat) (np : Int) (q : List UInt8) (I k1 k2 : Blk) (hq : q.length ≤ 2000000) : CallOk Tryz.prog 25 [.ptr A.length 0 0, .slice (bs q) q.length false] (A ++ [prB A.length N np false, I, k1, k2]) (.bool false) (A ++ [prB A.length N np false, I, k1, k2]) := by
  refine CallOk.body (F0 := [(0, .ptr A.length 0 0), (1, .slice (bs q) q.length false)]) Tryz.func25 rfl Tryz.ntmps25 Tryz.results25 rfl (by kernel_rfl) rfl ?_
  (repeat refine PW.seq ?_); refine PW.rg rfl fun K hK => ?_; simp (maxSteps := 3000000) (disch := omega) only [go_sem, ↓reduceIte, reduceCtorEq, pappend, plen]; refine hK _ _ ?_; clear hK K
  (repeat refine PW.seq ?_); refine PW.rg rfl fun K hK => ?_; simp (maxSteps := 3000000) (disch := omega) only [go_sem, ↓reduceIte, reduceCtorEq, pappend, plen, length_bs]; refine hK _ _ ?_; clear hK K
  (repeat refine PW.seq ?_); refine PW.rg rfl fun K hK => ?_; simp (maxSteps := 3000000) (disch := omega) only [go_sem, ↓reduceIte, reduceCtorEq, pappend, plen, prB]; refine hK _ _ ?_; clear hK K
  (repeat refine PW.seq ?_); refine PW.cond (t := _) rfl (fun h => ?_) (fun h => ?_)
  rotate_left
  · cases h
  (repeat refine PW.seq ?_); refine PW.rg rfl fun K hK => ?_; simp (maxSteps := 3000000) (disch := omega) only [go_sem, ↓reduceIte, reduceCtorEq, pappend, plen]; refine hK _ _ ?_; clear hK K
  refine PW.ret ⟨.bool false, by simp (maxSteps := 3000000) (disch := omega) only [go_sem, ↓reduceIte, reduceCtorEq, pappend, plen, presults, presult, List.mapM_cons, List.mapM_nil, Option.pure_def, Option.bind_eq_bind, Option.bind_some, Array.toList], ?_⟩
  exact Fin.now
set_option maxHeartbeats 4000000 in
set_option maxRecDepth 100000 in
theorem accC_ok (A : Heap) (N : Nat) (np : Int) (t : Int) (q : List UInt8) (I k1 : Blk) (hq : q.length ≤ 2000000) (ht : t = 178 ∨ (1 ≤ t ∧ t < 5)) : CallOk Tryz.prog 10 [.ptr A.length 0 0, .agg [.int .i64 t, .slice (bs q) q.length false]] (A ++ [prB A.length N np false, I, k1]) (.bool false) (A ++ [prB A.length N np false, I, k1]) := by
  refine CallOk.body (F0 := [(0, .ptr A.length 0 0), (1, .agg [.int .i64 t, .slice (bs q) q.length false])]) Tryz.func10 rfl Tryz.ntmps10 Tryz.results10 rfl (by kernel_rfl) rfl ?_
  (repeat refine PW.seq ?_); refine PW.rg rfl fun K hK => ?_; simp (maxSteps := 3000000) (disch := omega) only [go_sem, ↓reduceIte, reduceCtorEq, pappend, plen]; refine hK _ _ ?_; clear hK K
  (repeat refine PW.seq ?_); refine PW.block ?_
  rcases ht with rfl | ht
  · have uo := user_cl A N np q I k1 ⟨41, 0, [.int .i64 178, .slice (bs q) q.length false]⟩ hq
    (repeat refine PW.seq ?_); refine PW.rg rfl fun K hK => ?_; simp (maxSteps := 3000000) (disch := omega) only [go_sem, ↓reduceIte, reduceCtorEq, pappend, plen]; refine hK _ _ ?_; clear hK K
    (repeat refine PW.seq ?_); refine PW.cond (t := _) rfl (fun h => ?_) (fun h => ?_)
    rotate_left
    · cases h
    (repeat refine PW.seq ?_); refine PW.rg rfl fun K hK => ?_; simp (maxSteps := 3000000) (disch := omega) only [go_sem, ↓reduceIte, reduceCtorEq, pappend, plen]; refine VCx.call (uo) rfl ?_; simp (maxSteps := 3000000) (disch := omega) only [go_sem, ↓reduceIte, reduceCtorEq, pappend, plen]; refine hK _ _ ?_; clear hK K
    refine PW.ret ⟨.bool false, by simp (maxSteps := 3000000) (disch := omega) only [go_sem, ↓reduceIte, reduceCtorEq, pappend, plen, presults, presult, List.mapM_cons, List.mapM_nil, Option.pure_def, Option.bind_eq_bind, Option.bind_some, Array.toList], ?_⟩
    exact Fin.cut (K := [⟨41, 0, [.int .i64 178, .slice (bs q) q.length false]⟩]) (by simp) rfl (fun h => h) (.id (.bool _))
  · have d1 : (t == 178) = false := by simp; omega
    have io := fun K => usl_ok t K
    rw [decide_eq_true ht.1, decide_eq_true ht.2, Bool.true_and] at io
    (repeat refine PW.seq ?_); refine PW.rg rfl fun K hK => ?_; simp (maxSteps := 3000000) (disch := omega) only [go_sem, ↓reduceIte, reduceCtorEq, pappend, plen, d1]; refine hK _ _ ?_; clear hK K
    (repeat refine PW.seq ?_); refine PW.cond (t := _) rfl (fun h => ?_) (fun h => ?_)
    · cases h
    (repeat refine PW.seq ?_); refine PW.rg rfl fun K hK => ?_; simp (maxSteps := 3000000) (disch := omega) only [go_sem, ↓reduceIte, reduceCtorEq, pappend, plen]; refine VCx.call (io _) rfl ?_; simp (maxSteps := 3000000) (disch := omega) only [go_sem, ↓reduceIte, reduceCtorEq, pappend, plen]; refine hK _ _ ?_; clear hK K
    (repeat refine PW.seq ?_); refine PW.cond (t := _) rfl (fun h => ?_) (fun h => ?_)
    rotate_left
    · cases h
    (repeat refine PW.seq ?_); refine PW.rg rfl fun K hK => ?_; simp (maxSteps := 3000000) (disch := omega) only [go_sem, ↓reduceIte, reduceCtorEq, pappend, plen, prB]; refine hK _ _ ?_; clear hK K
    (repeat refine PW.seq ?_); refine PW.cond (t := _) rfl (fun h => ?_) (fun h => ?_)
    · cases h
    refine PW.skip ?_
    (repeat refine PW.seq ?_); refine PW.rg rfl fun K hK => ?_; simp (maxSteps := 3000000) (disch := omega) only [go_sem, ↓reduceIte, reduceCtorEq, pappend, plen, prB]; refine hK _ _ ?_; clear hK K
    refine PW.ret ⟨.bool false, by simp (maxSteps := 3000000) (disch := omega) only [go_sem, ↓reduceIte, reduceCtorEq, pappend, plen, presults, presult, List.mapM_cons, List.mapM_nil, Option.pure_def, Option.bind_eq_bind, Option.bind_some, Array.toList], ?_⟩
    exact Fin.cut (K := [⟨41, 0, [.int .i64 t, .slice (bs q) q.length false]⟩]) (by simp [prB]) rfl (fun h => h) (.id (.bool _))
/-- What a unit that begins an item leaves. -/
def accH (A : Heap) (pre : List It) (np : Int) (t : Int) (q : List UInt8) (k1 : Blk) : Heap :=
  if (bgn t q).2 = 0 then A ++ [prB A.length (pre.length + 1) (if (bgn t q).1.k = 3 then np + 1 else np) (decide ((bgn t q).1.k = 3)), imB (pre.length + 1) (itL pre ++ itq (bgn t q).1 nl0 nl0), k1]
  else A ++ [prB A.length pre.length np false, imB pre.length (itL pre), k1]
set_option maxHeartbeats 8000000 in
set_option maxRecDepth 100000 in
theorem accB_ok (A : Heap) (pre : List It) (np : Int) (op : Bool) (t : Int) (q : List UInt8) (k1 : Blk) (hp : ∀ y ∈ pre, SqOk y.s) (hn : pre.length ≤ 2000000) (hnp : 0 ≤ np ∧ np ≤ 2000000) (hq : q.length ≤ 1000000) (h1 : ¬ t = 178) (h2 : ¬ (1 ≤ t ∧ t < 5)) (h0 : ¬ (bgn t q).1.k = 0) :
    CallOk Tryz.prog 10 [.ptr A.length 0 0, .agg [.int .i64 t, .slice (bs q) q.length false]] (A ++ [prB A.length pre.length np op, imB pre.length (itL pre), k1]) (.bool (decide ((bgn t q).2 = 0))) (accH A pre np t q k1) := by
  have io := fun K => usl_ok t K
  have e2 : (decide (1 ≤ t) && decide (t < 5)) = false := by
    cases h : (decide (1 ≤ t) && decide (t < 5)) with
    | false => rfl
    | true => simp only [Bool.and_eq_true, decide_eq_true_eq] at h; exact absurd h h2
  rw [e2] at io
  have bo := fun K => begin_ok t q K hq
  have hb := (bgn_ok (t := t) (q := q)).1
  have zl := itq_len (bgn t q).1 nl0 nl0 hb
  have zc := itq_cell (bgn t q).1 nl0 nl0 rfl rfl
  have zt : List.take 148 (itq (bgn t q).1 nl0 nl0) = itq (bgn t q).1 nl0 nl0 := List.take_of_length_le (by omega)
  have zk : (itq (bgn t q).1 nl0 nl0)[0]? = some (.int .i64 (bgn t q).1.k) := rfl
  have F := (iqF pre (bgn t q).1 nl0 nl0 hp hb).ln
  have lp := itL_len pre hp
  have hsc := itP_sc (A.length + 3) pre (bgn t q).1 nl0 nl0 (sl_scoped fun x hx => by cases hx) (sl_scoped fun x hx => by cases hx)
  have d1 : (t == 178) = false := by simpa using h1
  unfold accH
  generalize itq (bgn t q).1 nl0 nl0 = Z at *
  generalize (bgn t q).2 = e at *
  generalize (bgn t q).1.k = kd at *
  have d3 : (kd != 0) = true := by simpa using h0
  have d4 : (kd == 0) = false := by simpa using h0
  refine CallOk.body (F0 := [(0, .ptr A.length 0 0), (1, .agg [.int .i64 t, .slice (bs q) q.length false])]) Tryz.func10 rfl Tryz.ntmps10 Tryz.results10 rfl (by kernel_rfl) rfl ?_
  (repeat refine PW.seq ?_); refine PW.rg rfl fun K hK => ?_; simp (maxSteps := 3000000) (disch := omega) only [go_sem, ↓reduceIte, reduceCtorEq, pappend, plen]; refine hK _ _ ?_; clear hK K
  (repeat refine PW.seq ?_); refine PW.block ?_
  (repeat refine PW.seq ?_); refine PW.rg rfl fun K hK => ?_; simp (maxSteps := 3000000) (disch := omega) only [go_sem, ↓reduceIte, reduceCtorEq, pappend, plen, d1]; refine hK _ _ ?_; clear hK K
  (repeat refine PW.seq ?_); refine PW.cond (t := _) rfl (fun h => ?_) (fun h => ?_)
  · cases h
  (repeat refine PW.seq ?_); refine PW.rg rfl fun K hK => ?_; simp (maxSteps := 3000000) (disch := omega) only [go_sem, ↓reduceIte, reduceCtorEq, pappend, plen]; refine VCx.call (io _) rfl ?_; simp (maxSteps := 3000000) (disch := omega) only [go_sem, ↓reduceIte, reduceCtorEq, pappend, plen]; refine hK _ _ ?_; clear hK K
  (repeat refine PW.seq ?_); refine PW.cond (t := _) rfl (fun h => ?_) (fun h => ?_)
  · cases h
  refine PW.skip ?_
  (repeat refine PW.seq ?_); refine PW.rg rfl fun K hK => ?_; simp (maxSteps := 3000000) (disch := omega) only [go_sem, ↓reduceIte, reduceCtorEq, pappend, plen, zl, zc, zt]; refine VCx.call (bo _) rfl ?_; simp (maxSteps := 3000000) (disch := omega) only [go_sem, ↓reduceIte, reduceCtorEq, pappend, plen, zl, zc, zt]; refine hK _ _ ?_; clear hK K
  (repeat refine PW.seq ?_); refine PW.rg rfl fun K hK => ?_; simp (maxSteps := 3000000) (disch := omega) only [go_sem, ↓reduceIte, reduceCtorEq, pappend, plen, zl, zk, d3]; refine hK _ _ ?_; clear hK K
  (repeat refine PW.seq ?_); refine PW.cond (t := _) rfl (fun h => ?_) (fun h => ?_)
  rotate_left
  · cases h
  (repeat refine PW.seq ?_); refine PW.rg rfl fun K hK => ?_; simp (maxSteps := 3000000) (disch := omega) only [go_sem, ↓reduceIte, reduceCtorEq, pappend, plen, prB]; refine hK _ _ ?_; clear hK K
  by_cases he : e = 0
  rotate_left
  · have d5 : (e != 0) = true := by simpa using he
    rw [if_neg he, decide_eq_false he]
    (repeat refine PW.seq ?_); refine PW.rg rfl fun K hK => ?_; simp (maxSteps := 3000000) (disch := omega) only [go_sem, ↓reduceIte, reduceCtorEq, pappend, plen, zl, zk, d4, d5]; refine hK _ _ ?_; clear hK K
    (repeat refine PW.seq ?_); refine PW.cond (t := _) rfl (fun h => ?_) (fun h => ?_)
    rotate_left
    · cases h
    (repeat refine PW.seq ?_); refine PW.rg rfl fun K hK => ?_; simp (maxSteps := 3000000) (disch := omega) only [go_sem, ↓reduceIte, reduceCtorEq, pappend, plen]; refine hK _ _ ?_; clear hK K
    refine PW.ret ⟨.bool false, by simp (maxSteps := 3000000) (disch := omega) only [go_sem, ↓reduceIte, reduceCtorEq, pappend, plen, presults, presult, List.mapM_cons, List.mapM_nil, Option.pure_def, Option.bind_eq_bind, Option.bind_some, Array.toList], ?_⟩
    refine Fin.cut (K := [⟨41, 0, [.int .i64 t, .slice (bs q) q.length false]⟩, ⟨61, 0, Z⟩]) (by simp [prB]) (by simp) (fun h => hscX h rfl fun c hc => ?_) (.id (.bool _))
    simp only [List.mem_cons, List.not_mem_nil, or_false] at hc
    rcases hc with rfl | rfl | rfl
    · exact .inr (prB_sc _ _ _ _ _ (by simp))
    · exact .inl (by simp)
    · exact .inl (by simp)
  have d5 : (e != 0) = false := by simp [he]
  rw [if_pos he, decide_eq_true he]
  (repeat refine PW.seq ?_); refine PW.rg rfl fun K hK => ?_; simp (maxSteps := 3000000) (disch := omega) only [go_sem, ↓reduceIte, reduceCtorEq, pappend, plen, zl, zk, d4, d5]; refine hK _ _ ?_; clear hK K
  (repeat refine PW.seq ?_); refine PW.cond (t := _) rfl (fun h => ?_) (fun h => ?_)
  · cases h
  refine PW.skip ?_
  (repeat refine PW.seq ?_); refine PW.drawi [A.length, A.length + 1] [(0, [0]), (68, [0]), (69, [0]), (70, [0]), (71, [0]), (76, [0]), (77, [0]), (72, [1]), (75, [1])] [] [] mix (by kernel_rfl) (by simp <;> omega) fun K hK => ?_
  simp (maxSteps := 3000000) (disch := omega) only [go_sem, ↓reduceIte, reduceCtorEq, pappend, plen, imB, zl, zc, zt, lp, F]
  refine hK _ _ ?_; clear hK K
  have fin : ∀ (np' : Int) (o : Bool), Fin (A ++ [prB A.length pre.length np op, imB pre.length (itL pre), k1]) (.bool true) (A ++ [prB A.length (pre.length + 1) np' o, imB (pre.length + 1) (itL pre ++ Z), k1]) (.bool true) (A ++ [⟨39, 0, [.msl (A.length + 1) ((pre.length + 1) * 148) 0 (pre.length + 1) 148 true, .int .i64 np', .bool o]⟩, ⟨61, (pre.length + 1) * 148, itL pre ++ Z⟩, k1, ⟨41, 0, [.int .i64 t, .slice (bs q) q.length false]⟩, ⟨61, 0, Z⟩]) := fun np' o => by
    refine Fin.cut (K := [⟨41, 0, [.int .i64 t, .slice (bs q) q.length false]⟩, ⟨61, 0, Z⟩]) (by simp [prB, imB]) (by simp) (fun h => hscX h rfl fun c hc => ?_) (.id (.bool _))
    simp only [List.mem_cons, List.not_mem_nil, or_false] at hc
    rcases hc with rfl | rfl | rfl
    · exact .inr (prB_sc _ _ _ _ _ (by simp))
    · exact .inr hsc
    · exact .inl (by simp)
  by_cases h3 : kd = 3
  · have d6 : (kd == 3) = true := by simp [h3]
    rw [if_pos h3, decide_eq_true h3]
    (repeat refine PW.seq ?_); refine PW.rg rfl fun K hK => ?_; simp (maxSteps := 3000000) (disch := omega) only [go_sem, ↓reduceIte, reduceCtorEq, pappend, plen, zl, zk, d6]; refine hK _ _ ?_; clear hK K
    (repeat refine PW.seq ?_); refine PW.cond (t := _) rfl (fun h => ?_) (fun h => ?_)
    rotate_left
    · cases h
    (repeat refine PW.seq ?_); refine PW.rg rfl fun K hK => ?_; simp (maxSteps := 3000000) (disch := omega) only [go_sem, ↓reduceIte, reduceCtorEq, pappend, plen]; refine hK _ _ ?_; clear hK K
    (repeat refine PW.seq ?_); refine PW.rg rfl fun K hK => ?_; simp (maxSteps := 3000000) (disch := omega) only [go_sem, ↓reduceIte, reduceCtorEq, pappend, plen]; refine hK _ _ ?_; clear hK K
    (repeat refine PW.seq ?_); refine PW.rg rfl fun K hK => ?_; simp (maxSteps := 3000000) (disch := omega) only [go_sem, ↓reduceIte, reduceCtorEq, pappend, plen]; refine hK _ _ ?_; clear hK K
    refine PW.ret ⟨.bool true, by simp (maxSteps := 3000000) (disch := omega) only [go_sem, ↓reduceIte, reduceCtorEq, pappend, plen, presults, presult, List.mapM_cons, List.mapM_nil, Option.pure_def, Option.bind_eq_bind, Option.bind_some, Array.toList], ?_⟩
    exact fin _ _
  · have d6 : (kd == 3) = false := by simpa using h3
    rw [if_neg h3, decide_eq_false h3]
    (repeat refine PW.seq ?_); refine PW.rg rfl fun K hK => ?_; simp (maxSteps := 3000000) (disch := omega) only [go_sem, ↓reduceIte, reduceCtorEq, pappend, plen, zl, zk, d6]; refine hK _ _ ?_; clear hK K
    (repeat refine PW.seq ?_); refine PW.cond (t := _) rfl (fun h => ?_) (fun h => ?_)
    · cases h
    refine PW.skip ?_
    (repeat refine PW.seq ?_); refine PW.rg rfl fun K hK => ?_; simp (maxSteps := 3000000) (disch := omega) only [go_sem, ↓reduceIte, reduceCtorEq, pappend, plen]; refine hK _ _ ?_; clear hK K
    refine PW.ret ⟨.bool true, by simp (maxSteps := 3000000) (disch := omega) only [go_sem, ↓reduceIte, reduceCtorEq, pappend, plen, presults, presult, List.mapM_cons, List.mapM_nil, Option.pure_def, Option.bind_eq_bind, Option.bind_some, Array.toList], ?_⟩
    exact fin _ _

end Go.Proofs.YtbhdollgohgkgaaGreatDoor.Sc
