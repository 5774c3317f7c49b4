/-
  Parts of the proof. No condition.
-/
import Derived.Test.YtbhdollgohgkgaaGreatDoorA23
import Derived.Test.YtbhdollgohgkgaaGreatDoorA24
import Derived.Test.YtbhdollgohgkgaaGreatDoorA18
namespace Go.Proofs.YtbhdollgohgkgaaGreatDoor.Sc
set_option linter.all false
set_option linter.unusedVariables false
set_option linter.unusedSimpArgs false
open Pm Ty S3 Go.RowKit

theorem sameDef_ok (D : List (Nat × Nat)) (f g : Bool) (H : Heap) (hD : D.length ≤ 8000000) : CallOk Tryz.prog 8 [.slice (dc D) D.length f, .slice (dc D) D.length g] H (.bool true) H := by
  have ql := dc_lnC D
  refine CallOk.body (F0 := [(0, .slice (dc D) D.length f), (1, .slice (dc D) D.length g)]) Tryz.func8 rfl Tryz.ntmps8 Tryz.results8 rfl (by kernel_rfl) rfl ?_
  (repeat refine PW.seq ?_); refine PW.rg rfl fun K hK => ?_; simp (maxSteps := 3000000) (disch := omega) only [go_sem, ↓reduceIte, reduceCtorEq, pappend, plen]; refine hK _ _ ?_; clear hK K
  (repeat refine PW.seq ?_); refine PW.rg rfl fun K hK => ?_; simp (maxSteps := 3000000) (disch := omega) only [go_sem, ↓reduceIte, reduceCtorEq, pappend, plen, ql, bne_self_eq_false]; refine hK _ _ ?_; clear hK K
  (repeat refine PW.seq ?_); refine PW.cond (t := _) rfl (fun h => ?_) (fun h => ?_)
  · cases h
  refine PW.skip ?_
  (repeat refine PW.seq ?_); refine PW.rg rfl fun K hK => ?_; simp (maxSteps := 3000000) (disch := omega) only [go_sem, ↓reduceIte, reduceCtorEq, pappend, plen]; refine hK _ _ ?_; clear hK K
  (repeat refine PW.seq ?_); refine PW.block (PW.loop ?_)
  suffices hl1 : ∀ j : Nat, j ≤ D.length → PL Tryz.prog _ _ [(0, .slice (dc D) D.length f), (1, .slice (dc D) D.length g), (5, .int .i64 (j : Int))] H _ by
    exact PL.at [0, 1, 5] (hl1 0 (by omega)) rfl rfl
  refine cnt D.length (fun j hj ih => ?_) ?_
  · have ct := lt_t hj
    have e0 : (dc D)[j * 2]? = some (.int .i64 (D[j].1 : Int)) := flat_get dd 2 D j 0 hj (fun _ _ => rfl) (by omega)
    have e1 : (dc D)[j * 2 + 1]? = some (.int .i64 (D[j].2 : Int)) := flat_get dd 2 D j 1 hj (fun _ _ => rfl) (by omega)
    generalize D[j] = u at *
    refine PL.round ?_; (repeat refine PW.seq ?_); refine PW.rg rfl fun K hK => ?_; simp (maxSteps := 3000000) (disch := omega) only [go_sem, ↓reduceIte, reduceCtorEq, pappend, plen, ct, ql]; refine hK _ _ ?_; clear hK K; (repeat refine PW.seq ?_); refine PW.cond (t := _) rfl (fun h => ?_) (fun h => ?_)
    rotate_left
    · cases h
    refine PW.skip ?_; (repeat refine PW.seq ?_); refine PW.block ?_
    (repeat refine PW.seq ?_); refine PW.drawg mix (by kernel_rfl) fun K hK => ?_; simp (maxSteps := 3000000) (disch := omega) only [go_sem, ↓reduceIte, reduceCtorEq, pappend, plen, ql, e0, e1, bne_self_eq_false]; refine hK _ _ ?_; clear hK K
    (repeat refine PW.seq ?_); refine PW.cond (t := _) rfl (fun h => ?_) (fun h => ?_)
    · cases h
    refine PW.skip ?_
    (repeat refine PW.seq ?_); refine PW.rg rfl fun K hK => ?_; simp (maxSteps := 3000000) (disch := omega) only [go_sem, ↓reduceIte, reduceCtorEq, pappend, plen]; refine hK _ _ ?_; clear hK K
    exact PL.at [0, 1, 5] ih rfl rfl
  · refine PL.round ?_; (repeat refine PW.seq ?_); refine PW.rg rfl fun K hK => ?_; simp (maxSteps := 3000000) (disch := omega) only [go_sem, ↓reduceIte, reduceCtorEq, pappend, plen, lt_f D.length, ql]; refine hK _ _ ?_; clear hK K; (repeat refine PW.seq ?_); refine PW.cond (t := _) rfl (fun h => ?_) (fun h => ?_)
    · cases h
    refine PW.exit ?_
    (repeat refine PW.seq ?_); refine PW.rg rfl fun K hK => ?_; simp (maxSteps := 3000000) (disch := omega) only [go_sem, ↓reduceIte, reduceCtorEq, pappend, plen]; refine hK _ _ ?_; clear hK K
    refine PW.ret ⟨.bool true, by simp (maxSteps := 3000000) (disch := omega) only [go_sem, ↓reduceIte, reduceCtorEq, pappend, plen, presults, presult, List.mapM_cons, List.mapM_nil, Option.pure_def, Option.bind_eq_bind, Option.bind_some, Array.toList], ?_⟩
    exact Fin.now

def bgT (t : Int) : Bool := (t == 179) || ((t == 184) || ((t == 181) || (t == 183)))
theorem begins_ref (t : Int) (H : Heap) : CallOk Tryz.prog 15 [.int .i64 t] H (.bool (bgT t)) H := by
  refine CallOk.body (F0 := [(0, .int .i64 t)]) Tryz.func15 rfl Tryz.ntmps15 Tryz.results15 rfl (by kernel_rfl) rfl ?_
  unfold bgT
  (repeat refine PW.seq ?_); refine PW.rg rfl fun K hK => ?_; simp (maxSteps := 3000000) (disch := omega) only [go_sem, ↓reduceIte, reduceCtorEq, pappend, plen]; refine hK _ _ ?_; clear hK K
  cases h1 : (t == 179) with
  | true =>
    (repeat refine PW.seq ?_); refine PW.rg rfl fun K hK => ?_; simp (maxSteps := 3000000) (disch := omega) only [go_sem, ↓reduceIte, reduceCtorEq, pappend, plen, h1]; refine hK _ _ ?_; clear hK K
    refine PW.ret ⟨.bool true, by simp (maxSteps := 3000000) (disch := omega) only [go_sem, ↓reduceIte, reduceCtorEq, pappend, plen, presults, presult, List.mapM_cons, List.mapM_nil, Option.pure_def, Option.bind_eq_bind, Option.bind_some, Array.toList], ?_⟩
    exact Fin.now
  | false =>
  cases h2 : (t == 184) with
  | true =>
    (repeat refine PW.seq ?_); refine PW.rg rfl fun K hK => ?_; simp (maxSteps := 3000000) (disch := omega) only [go_sem, ↓reduceIte, reduceCtorEq, pappend, plen, h1, h2]; refine hK _ _ ?_; clear hK K
    refine PW.ret ⟨.bool true, by simp (maxSteps := 3000000) (disch := omega) only [go_sem, ↓reduceIte, reduceCtorEq, pappend, plen, presults, presult, List.mapM_cons, List.mapM_nil, Option.pure_def, Option.bind_eq_bind, Option.bind_some, Array.toList], ?_⟩
    exact Fin.now
  | false =>
  cases h3 : (t == 181) with
  | true =>
    (repeat refine PW.seq ?_); refine PW.rg rfl fun K hK => ?_; simp (maxSteps := 3000000) (disch := omega) only [go_sem, ↓reduceIte, reduceCtorEq, pappend, plen, h1, h2, h3]; refine hK _ _ ?_; clear hK K
    refine PW.ret ⟨.bool true, by simp (maxSteps := 3000000) (disch := omega) only [go_sem, ↓reduceIte, reduceCtorEq, pappend, plen, presults, presult, List.mapM_cons, List.mapM_nil, Option.pure_def, Option.bind_eq_bind, Option.bind_some, Array.toList], ?_⟩
    exact Fin.now
  | false =>
    (repeat refine PW.seq ?_); refine PW.rg rfl fun K hK => ?_; simp (maxSteps := 3000000) (disch := omega) only [go_sem, ↓reduceIte, reduceCtorEq, pappend, plen, h1, h2, h3]; refine hK _ _ ?_; clear hK K
    refine PW.ret ⟨.bool (t == 183), by simp (maxSteps := 3000000) (disch := omega) only [go_sem, ↓reduceIte, reduceCtorEq, pappend, plen, presults, presult, List.mapM_cons, List.mapM_nil, Option.pure_def, Option.bind_eq_bind, Option.bind_some, Array.toList], ?_⟩
    exact Fin.now

def belT (t : Int) (q : List UInt8) : Bool := if t = 178 then usB q else decide (1 ≤ t) && decide (t < 5)
theorem belongs_ref (t : Int) (q : List UInt8) (f : Bool) (H : Heap) (hq : q.length ≤ 2000000) : CallOk Tryz.prog 17 [.agg [.int .i64 t, .slice (bs q) q.length f]] H (.bool (belT t q)) H := by
  unfold belT
  refine CallOk.body (F0 := [(0, .agg [.int .i64 t, .slice (bs q) q.length f])]) Tryz.func17 rfl Tryz.ntmps17 Tryz.results17 rfl (by kernel_rfl) rfl ?_
  (repeat refine PW.seq ?_); refine PW.rg rfl fun K hK => ?_; simp (maxSteps := 3000000) (disch := omega) only [go_sem, ↓reduceIte, reduceCtorEq, pappend, plen]; refine hK _ _ ?_; clear hK K
  (repeat refine PW.seq ?_); refine PW.rg rfl fun K hK => ?_; simp (maxSteps := 3000000) (disch := omega) only [go_sem, ↓reduceIte, reduceCtorEq, pappend, plen, length_bs]; refine hK _ _ ?_; clear hK K
  by_cases ht : t = 178
  · rw [if_pos ht]
    have b1 : (t == 178) = true := by simp [ht]
    (repeat refine PW.seq ?_); refine PW.rg rfl fun K hK => ?_; simp (maxSteps := 3000000) (disch := omega) only [go_sem, ↓reduceIte, reduceCtorEq, pappend, plen, b1]; refine hK _ _ ?_; clear hK K
    (repeat refine PW.seq ?_); refine PW.cond (t := _) rfl (fun h => ?_) (fun h => ?_)
    rotate_left
    · cases h
    have fin : ∀ (b : Bool) (K : Heap), Fin H (.bool b) H (.bool b) (H ++ K) := fun b K => Fin.base (.id (.bool _))
    by_cases h1 : 0 < q.length
    rotate_left
    · have e : usB q = false := by cases hu : usB q with | false => rfl | true => exact absurd ((usB_iff q).1 hu).1 h1
      have d1 : decide (0 < (q.length : Int)) = false := decide_eq_false (by omega)
      (repeat refine PW.seq ?_); refine PW.rg rfl fun K hK => ?_; simp (maxSteps := 3000000) (disch := omega) only [go_sem, ↓reduceIte, reduceCtorEq, pappend, plen, d1]; refine hK _ _ ?_; clear hK K
      rw [e]
      refine PW.ret ⟨.bool false, by simp (maxSteps := 3000000) (disch := omega) only [go_sem, ↓reduceIte, reduceCtorEq, pappend, plen, presults, presult, List.mapM_cons, List.mapM_nil, Option.pure_def, Option.bind_eq_bind, Option.bind_some, Array.toList], ?_⟩
      exact fin _ _
    have d1 : decide (0 < (q.length : Int)) = true := decide_eq_true (by omega)
    by_cases h2 : q.length ≤ 257
    rotate_left
    · have e : usB q = false := by cases hu : usB q with | false => rfl | true => exact absurd ((usB_iff q).1 hu).2.1 h2
      have d2 : decide ((q.length : Int) ≤ 257) = false := decide_eq_false (by omega)
      (repeat refine PW.seq ?_); refine PW.rg rfl fun K hK => ?_; simp (maxSteps := 3000000) (disch := omega) only [go_sem, ↓reduceIte, reduceCtorEq, pappend, plen, d1, d2]; refine hK _ _ ?_; clear hK K
      rw [e]
      refine PW.ret ⟨.bool false, by simp (maxSteps := 3000000) (disch := omega) only [go_sem, ↓reduceIte, reduceCtorEq, pappend, plen, presults, presult, List.mapM_cons, List.mapM_nil, Option.pure_def, Option.bind_eq_bind, Option.bind_some, Array.toList], ?_⟩
      exact fin _ _
    have d2 : decide ((q.length : Int) ≤ 257) = true := decide_eq_true (by omega)
    have e5 : (q.length : Int) - 1 = ((q.length - 1 : Nat) : Int) := by omega
    have e : usB q = (byt q (q.length - 1) == 128) := by
      unfold usB
      rw [decide_eq_true h1, decide_eq_true h2]; rfl
    rw [e]
    (repeat refine PW.seq ?_); refine PW.rg rfl fun K hK => ?_; simp (maxSteps := 3000000) (disch := omega) only [go_sem, ↓reduceIte, reduceCtorEq, pappend, plen, d1, d2, e5, length_bs, bs_get]; refine hK _ _ ?_; clear hK K
    refine PW.ret ⟨.bool (byt q (q.length - 1) == 128), by simp (maxSteps := 3000000) (disch := omega) only [go_sem, ↓reduceIte, reduceCtorEq, pappend, plen, presults, presult, List.mapM_cons, List.mapM_nil, Option.pure_def, Option.bind_eq_bind, Option.bind_some, Array.toList], ?_⟩
    exact fin _ _
  · rw [if_neg ht]
    have b1 : (t == 178) = false := by simp [ht]
    (repeat refine PW.seq ?_); refine PW.rg rfl fun K hK => ?_; simp (maxSteps := 3000000) (disch := omega) only [go_sem, ↓reduceIte, reduceCtorEq, pappend, plen, b1]; refine hK _ _ ?_; clear hK K
    (repeat refine PW.seq ?_); refine PW.cond (t := _) rfl (fun h => ?_) (fun h => ?_)
    · cases h
    refine PW.skip ?_
    have fin : ∀ (b : Bool) (K : Heap), Fin H (.bool b) H (.bool b) (H ++ K) := fun b K => Fin.base (.id (.bool _))
    by_cases h1 : 1 ≤ t
    · rw [decide_eq_true h1]
      have d1 : decide (1 ≤ t) = true := decide_eq_true h1
      (repeat refine PW.seq ?_); refine PW.rg rfl fun K hK => ?_; simp (maxSteps := 3000000) (disch := omega) only [go_sem, ↓reduceIte, reduceCtorEq, pappend, plen, d1]; refine hK _ _ ?_; clear hK K
      refine PW.ret ⟨.bool (decide (t < 5)), by simp (maxSteps := 3000000) (disch := omega) only [go_sem, ↓reduceIte, reduceCtorEq, pappend, plen, presults, presult, List.mapM_cons, List.mapM_nil, Option.pure_def, Option.bind_eq_bind, Option.bind_some, Array.toList], ?_⟩
      exact fin _ _
    · rw [decide_eq_false h1]
      have d1 : decide (1 ≤ t) = false := decide_eq_false h1
      (repeat refine PW.seq ?_); refine PW.rg rfl fun K hK => ?_; simp (maxSteps := 3000000) (disch := omega) only [go_sem, ↓reduceIte, reduceCtorEq, pappend, plen, d1]; refine hK _ _ ?_; clear hK K
      refine PW.ret ⟨.bool false, by simp (maxSteps := 3000000) (disch := omega) only [go_sem, ↓reduceIte, reduceCtorEq, pappend, plen, presults, presult, List.mapM_cons, List.mapM_nil, Option.pure_def, Option.bind_eq_bind, Option.bind_some, Array.toList], ?_⟩
      exact fin _ _

set_option maxHeartbeats 8000000 in
set_option maxRecDepth 100000 in
theorem item_ref (t : Int) (q : List UInt8) (H : Heap) (hq : q.length ≤ 1000000) (hb : bgT t = true) : CallOk Tryz.prog 16 [.agg [.int .i64 t, .slice (bs q) q.length false]] H (.tup [.agg (itq (bgn t q).1 nl0 nl0), .bool ((bgn t q).2 == 0)]) H := by
  have so := fun K => takeS_ref t q false K (by omega)
  have go := fun K => takeG_ref t q false K (by omega)
  have ho := fun K => takeH_ref t q false hq K
  rw [takeS_eq] at so
  have hsS : SqOk (takeS true t q).1 := by
    unfold takeS
    split
    · split
      · exact rdS_ok _ _ _
      · exact zSq_ok
    · exact zSq_ok
  unfold rvTS at so
  unfold rvTG at go
  have zl : ∀ x : It, SqOk x.s → (itq x nl0 nl0).length = 148 := fun x h => itq_len x _ _ h
  have zc : ∀ x : It, (itq x nl0 nl0).all PV.cell = true := fun x => itq_cell x _ _ rfl rfl
  have zt : ∀ x : It, SqOk x.s → List.take 148 (itq x nl0 nl0) = itq x nl0 nl0 := fun x h => List.take_of_length_le (by rw [zl x h]; omega)
  have hbo := bgn_ok (t := t) (q := q)
  have z8 : ((0 : UInt8).toNat : Int) = 0 := rfl
  obtain ⟨Z0, hZ0⟩ : ∃ Z : List PV, Z = itq (itN 0) nl0 nl0 := ⟨_, rfl⟩
  have hlit := hZ0
  rw [itN_lit] at hlit
  simp only [sqc, zSq, z64U, bs, List.replicate_succ, List.replicate_zero, List.map_cons, List.map_nil, List.cons_append, List.nil_append, z8] at hlit
  have zl0 : Z0.length = 148 := by rw [hZ0]; exact zl _ zSq_ok
  have zk : ∀ k : Int, Z0.set 0 (.int .i64 k) = itq (itN k) nl0 nl0 := fun k => by rw [hZ0]; rfl
  have zd : List.drop 148 Z0 = [] := List.drop_of_length_le (by omega)
  have zN : ∀ k : Int, (itq (itN k) nl0 nl0).length = 148 := fun k => zl _ zSq_ok
  refine CallOk.body (F0 := [(0, .agg [.int .i64 t, .slice (bs q) q.length false])]) Tryz.func16 rfl Tryz.ntmps16 Tryz.results16 rfl (by kernel_rfl) rfl ?_
  have zc0 : Z0.all PV.cell = true := by rw [hZ0]; exact zc _
  have zt0 : List.take 148 Z0 = Z0 := List.take_of_length_le (by omega)
  (repeat refine PW.seq ?_); refine PW.rg rfl fun K hK => ?_; simp (maxSteps := 3000000) (disch := omega) only [go_sem, ↓reduceIte, reduceCtorEq, pappend, plen, ← hlit]; refine hK _ _ ?_; clear hK K
  (repeat refine PW.seq ?_); refine PW.rg rfl fun K hK => ?_; simp (maxSteps := 3000000) (disch := omega) only [go_sem, ↓reduceIte, reduceCtorEq, pappend, plen]; refine hK _ _ ?_; clear hK K
  (repeat refine PW.seq ?_); refine PW.rg rfl fun K hK => ?_; simp (maxSteps := 3000000) (disch := omega) only [go_sem, ↓reduceIte, reduceCtorEq, pappend, plen, ← hlit, zl0, zd, zc0, zt0, List.append_nil]; refine hK _ _ ?_; clear hK K
  (repeat refine PW.seq ?_); refine PW.rg rfl fun K hK => ?_; simp (maxSteps := 3000000) (disch := omega) only [go_sem, ↓reduceIte, reduceCtorEq, pappend, plen]; refine hK _ _ ?_; clear hK K
  suffices hm : ∀ x : It, (itq x nl0 nl0).length = 148 → List.take 148 (itq x nl0 nl0) = itq x nl0 nl0 → ∀ e, bgn t q = (x, e) → PW Tryz.prog _ _ [(2, .ptr (H.length + 1) 0 0), (4, .int .i64 e), (5, .ptr (H.length + 2) 0 0)] (H ++ [⟨41, 0, [.int .i64 t, .slice (bs q) q.length false]⟩, ⟨61, 0, Z0⟩, ⟨61, 0, itq x nl0 nl0⟩]) _ by
    have hm' := fun x h => hm x (zl x h) (zt x h)
    (repeat refine PW.seq ?_); refine PW.block ?_
    by_cases t1 : t = 179
    · have d1 : (t == 179) = true := by simp [t1]
      have hB : bgn t q = ({ itN 1 with s := (takeS true t q).1 }, (takeS true t q).2) := by unfold bgn; rw [if_pos t1]
      (repeat refine PW.seq ?_); refine PW.rg rfl fun K hK => ?_; simp (maxSteps := 3000000) (disch := omega) only [go_sem, ↓reduceIte, reduceCtorEq, pappend, plen, d1]; refine hK _ _ ?_; clear hK K
      (repeat refine PW.seq ?_); refine PW.cond (t := _) rfl (fun h => ?_) (fun h => ?_)
      rotate_left
      · cases h
      (repeat refine PW.seq ?_); refine PW.rg rfl fun K hK => ?_; simp (maxSteps := 3000000) (disch := omega) only [go_sem, ↓reduceIte, reduceCtorEq, pappend, plen, zk, zl0]; refine hK _ _ ?_; clear hK K
      have hl := sqc_l _ hsS
      have hz := itN_s 1 _ hsS
      (repeat refine PW.seq ?_); refine PW.rg rfl fun K hK => ?_; simp (maxSteps := 3000000) (disch := omega) only [go_sem, ↓reduceIte, reduceCtorEq, pappend, plen, zN, hl, hz]; refine VCx.call (so _) rfl ?_; simp (maxSteps := 3000000) (disch := omega) only [go_sem, ↓reduceIte, reduceCtorEq, pappend, plen, zN, hl, hz]; refine hK _ _ ?_; clear hK K
      exact PW.at [2, 4, 5] (hm' _ hsS _ hB) rfl rfl
    have d1 : (t == 179) = false := by simpa using t1
    (repeat refine PW.seq ?_); refine PW.rg rfl fun K hK => ?_; simp (maxSteps := 3000000) (disch := omega) only [go_sem, ↓reduceIte, reduceCtorEq, pappend, plen, d1]; refine hK _ _ ?_; clear hK K
    (repeat refine PW.seq ?_); refine PW.cond (t := _) rfl (fun h => ?_) (fun h => ?_)
    · cases h
    by_cases t2 : t = 184
    · have d2 : (t == 184) = true := by simp [t2]
      have hB : bgn t q = ({ itN 2 with gc := (takeG t q).1, gb := (takeG t q).2.1, gt := (takeG t q).2.2.1 }, (takeG t q).2.2.2) := by unfold bgn; rw [if_neg t1, if_pos t2]
      (repeat refine PW.seq ?_); refine PW.rg rfl fun K hK => ?_; simp (maxSteps := 3000000) (disch := omega) only [go_sem, ↓reduceIte, reduceCtorEq, pappend, plen, d2]; refine hK _ _ ?_; clear hK K
      (repeat refine PW.seq ?_); refine PW.cond (t := _) rfl (fun h => ?_) (fun h => ?_)
      rotate_left
      · cases h
      (repeat refine PW.seq ?_); refine PW.rg rfl fun K hK => ?_; simp (maxSteps := 3000000) (disch := omega) only [go_sem, ↓reduceIte, reduceCtorEq, pappend, plen, zk, zl0]; refine hK _ _ ?_; clear hK K
      have hz := itN_g 2 (takeG t q).1 (takeG t q).2.1 (takeG t q).2.2.1
      (repeat refine PW.seq ?_); refine PW.rg rfl fun K hK => ?_; simp (maxSteps := 3000000) (disch := omega) only [go_sem, ↓reduceIte, reduceCtorEq, pappend, plen, zN, hz]; refine VCx.call (go _) rfl ?_; simp (maxSteps := 3000000) (disch := omega) only [go_sem, ↓reduceIte, reduceCtorEq, pappend, plen, zN, hz]; refine hK _ _ ?_; clear hK K
      exact PW.at [2, 4, 5] (hm' _ zSq_ok _ hB) rfl rfl
    have d2 : (t == 184) = false := by simpa using t2
    (repeat refine PW.seq ?_); refine PW.rg rfl fun K hK => ?_; simp (maxSteps := 3000000) (disch := omega) only [go_sem, ↓reduceIte, reduceCtorEq, pappend, plen, d2]; refine hK _ _ ?_; clear hK K
    (repeat refine PW.seq ?_); refine PW.cond (t := _) rfl (fun h => ?_) (fun h => ?_)
    · cases h
    by_cases t3 : t = 181
    · have d3 : (t == 181) = true := by simp [t3]
      have hB : bgn t q = ({ itN 3 with p := (takeH t q).1 }, (takeH t q).2) := by unfold bgn; rw [if_neg t1, if_neg t2, if_pos t3]
      (repeat refine PW.seq ?_); refine PW.rg rfl fun K hK => ?_; simp (maxSteps := 3000000) (disch := omega) only [go_sem, ↓reduceIte, reduceCtorEq, pappend, plen, d3]; refine hK _ _ ?_; clear hK K
      (repeat refine PW.seq ?_); refine PW.cond (t := _) rfl (fun h => ?_) (fun h => ?_)
      rotate_left
      · cases h
      (repeat refine PW.seq ?_); refine PW.rg rfl fun K hK => ?_; simp (maxSteps := 3000000) (disch := omega) only [go_sem, ↓reduceIte, reduceCtorEq, pappend, plen, zk, zl0]; refine hK _ _ ?_; clear hK K
      have hz := itN_p 3 (takeH t q).1
      have pl : (pic (takeH t q).1).length = 6 := rfl
      have pa : (pic (takeH t q).1).all PV.cell = true := rfl
      (repeat refine PW.seq ?_); refine PW.rg rfl fun K hK => ?_; simp (maxSteps := 3000000) (disch := omega) only [go_sem, ↓reduceIte, reduceCtorEq, pappend, plen, zN, pl, pa, hz]; refine VCx.call (ho _) rfl ?_; simp (maxSteps := 3000000) (disch := omega) only [go_sem, ↓reduceIte, reduceCtorEq, pappend, plen, zN, pl, pa, hz]; refine hK _ _ ?_; clear hK K
      exact PW.at [2, 4, 5] (hm' _ zSq_ok _ hB) rfl rfl
    have d3 : (t == 181) = false := by simpa using t3
    (repeat refine PW.seq ?_); refine PW.rg rfl fun K hK => ?_; simp (maxSteps := 3000000) (disch := omega) only [go_sem, ↓reduceIte, reduceCtorEq, pappend, plen, d3]; refine hK _ _ ?_; clear hK K
    (repeat refine PW.seq ?_); refine PW.cond (t := _) rfl (fun h => ?_) (fun h => ?_)
    · cases h
    have t4 : t = 183 := by
      unfold bgT at hb
      rw [d1, d2, d3] at hb
      simpa using hb
    have d4 : (t == 183) = true := by simp [t4]
    have hB : bgn t q = (itN 4, if q.length = 0 then 0 else 3) := by unfold bgn; rw [if_neg t1, if_neg t2, if_neg t3, if_pos t4]
    (repeat refine PW.seq ?_); refine PW.rg rfl fun K hK => ?_; simp (maxSteps := 3000000) (disch := omega) only [go_sem, ↓reduceIte, reduceCtorEq, pappend, plen, d4]; refine hK _ _ ?_; clear hK K
    (repeat refine PW.seq ?_); refine PW.cond (t := _) rfl (fun h => ?_) (fun h => ?_)
    rotate_left
    · cases h
    (repeat refine PW.seq ?_); refine PW.rg rfl fun K hK => ?_; simp (maxSteps := 3000000) (disch := omega) only [go_sem, ↓reduceIte, reduceCtorEq, pappend, plen, zk, zl0]; refine hK _ _ ?_; clear hK K
    by_cases hq0 : q.length = 0
    · have d5 : ((q.length : Int) == 0) = true := by simp [hq0]
      rw [if_pos hq0] at hB
      (repeat refine PW.seq ?_); refine PW.rg rfl fun K hK => ?_; simp (maxSteps := 3000000) (disch := omega) only [go_sem, ↓reduceIte, reduceCtorEq, pappend, plen, length_bs, d5]; refine hK _ _ ?_; clear hK K
      (repeat refine PW.seq ?_); refine PW.cond (t := _) rfl (fun h => ?_) (fun h => ?_)
      rotate_left
      · cases h
      (repeat refine PW.seq ?_); refine PW.rg rfl fun K hK => ?_; simp (maxSteps := 3000000) (disch := omega) only [go_sem, ↓reduceIte, reduceCtorEq, pappend, plen]; refine hK _ _ ?_; clear hK K
      exact PW.at [2, 4, 5] (hm' _ zSq_ok _ hB) rfl rfl
    · have d5 : ((q.length : Int) == 0) = false := by rw [Bool.eq_false_iff, ne_eq, beq_iff_eq]; omega
      rw [if_neg hq0] at hB
      (repeat refine PW.seq ?_); refine PW.rg rfl fun K hK => ?_; simp (maxSteps := 3000000) (disch := omega) only [go_sem, ↓reduceIte, reduceCtorEq, pappend, plen, length_bs, d5]; refine hK _ _ ?_; clear hK K
      (repeat refine PW.seq ?_); refine PW.cond (t := _) rfl (fun h => ?_) (fun h => ?_)
      · cases h
      refine PW.skip ?_
      exact PW.at [2, 4, 5] (hm' _ zSq_ok _ hB) rfl rfl
  intro x x1 x2 e hB
  rw [hB]
  clear so go ho
  generalize hY : itq x nl0 nl0 = Y at *
  (repeat refine PW.seq ?_); refine PW.rg rfl fun K hK => ?_; simp (maxSteps := 3000000) (disch := omega) only [go_sem, ↓reduceIte, reduceCtorEq, pappend, plen, zl0, zd, x1, x2, List.append_nil]; refine hK _ _ ?_; clear hK K
  refine PW.ret ⟨.tup [.agg Y, .bool (e == 0)], by simp (maxSteps := 3000000) (disch := omega) only [go_sem, ↓reduceIte, reduceCtorEq, pappend, plen, presults, presult, List.mapM_cons, List.mapM_nil, Option.pure_def, Option.bind_eq_bind, Option.bind_some, Array.toList, x1, x2], ?_⟩
  refine Fin.base (.id (.tup (all_scoped fun y hy => ?_)))
  simp only [List.mem_cons, List.not_mem_nil, or_false] at hy
  rcases hy with rfl | rfl
  · rw [← hY]; exact ag_scoped (itq_sc _ _ _ _ (sl_scoped fun x hx => by cases hx) (sl_scoped fun x hx => by cases hx))
  · exact .bool _

/-! ### insert -/
/-- The list with d at place i. -/
def insM (l : List (Nat × Nat)) (d : Nat × Nat) (i : Nat) : List (Nat × Nat) := l.take i ++ d :: l.drop i
theorem insM_len {l : List (Nat × Nat)} {d : Nat × Nat} {i : Nat} (h : i ≤ l.length) : (insM l d i).length = l.length + 1 := by
  unfold insM
  simp; omega
theorem insM_0 {l : List (Nat × Nat)} {d : Nat × Nat} {i : Nat} (h : i ≤ l.length) : (insM l d i)[i]? = some d := by
  unfold insM
  rw [List.getElem?_append_right (by rw [List.length_take]; exact Nat.min_le_left _ _), List.length_take, Nat.min_eq_left h, Nat.sub_self]; rfl
theorem insM_1 {l : List (Nat × Nat)} {d : Nat × Nat} {i : Nat} (h : i < l.length) : (insM l d (i + 1))[i]? = l[i]? := by
  unfold insM
  rw [List.getElem?_append_left (by simp; omega), List.getElem?_take, if_pos (by omega)]
theorem insM_swap {l : List (Nat × Nat)} {d : Nat × Nat} {i : Nat} (h : i < l.length) : ((insM l d (i + 1)).set (i + 1) l[i]).set i d = insM l d i := by
  refine List.ext_getElem? fun j => ?_
  unfold insM
  simp only [List.getElem?_set, List.getElem?_append, List.length_take, List.getElem?_take, List.getElem?_cons, List.getElem?_drop, List.length_append, List.length_cons, List.length_drop, List.length_set]
  rw [Nat.min_eq_left (show i + 1 ≤ l.length by omega), Nat.min_eq_left (show i ≤ l.length by omega)]
  by_cases h1 : i = j
  · subst h1
    simp; omega
  · rw [if_neg h1]
    by_cases h2 : i + 1 = j
    · subst h2
      rw [if_pos rfl, if_pos (by omega), if_neg (by omega), if_neg (by omega), show i + (i + 1 - i - 1) = i by omega, List.getElem?_eq_getElem h]
    · rw [if_neg h2]
      by_cases h3 : j < i
      · rw [if_pos (by omega), if_pos (by omega), if_pos h3, if_pos h3]
      · rw [if_neg (by omega), if_neg (by omega), if_neg h3, if_neg (by omega), show i + 1 + (j - (i + 1) - 1) = i + (j - i - 1) by omega]
theorem dc_put (M : List (Nat × Nat)) (k : Nat) (e : Nat × Nat) (h : k < M.length) : List.take (k * 2) (dc M) ++ .int .i64 (e.1 : Int) :: .int .i64 (e.2 : Int) :: List.drop (k * 2 + 2) (dc M) = dc (M.set k e) := by
  rw [List.set_eq_take_append_cons_drop, if_pos h]
  have e1 : dc M = dc (M.take k) ++ dc (M.drop k) := by rw [← dc_append, List.take_append_drop]
  have e2 : dc (M.drop k) = dd M[k] ++ dc (M.drop (k + 1)) := by rw [List.drop_eq_getElem_cons h]; rfl
  have l1 : (dc (M.take k)).length = k * 2 := by rw [dc_lnC, List.length_take, Nat.min_eq_left (by omega)]
  have l2 : (dd M[k]).length = 2 := rfl
  rw [e1, List.take_left' l1, ← List.drop_drop, List.drop_left' l1, e2, List.drop_left' l2, dc_append]; rfl
theorem dc_at0 {M : List (Nat × Nat)} {k : Nat} {e : Nat × Nat} (h : M[k]? = some e) : (dc M)[k * 2]? = some (.int .i64 (e.1 : Int)) := by
  obtain ⟨hk, rfl⟩ := List.getElem?_eq_some_iff.1 h
  exact flat_get dd 2 M k 0 hk (fun _ _ => rfl) (by omega)
theorem dc_at2 {M : List (Nat × Nat)} {k : Nat} {e : Nat × Nat} (h : M[k]? = some e) : List.take 2 (List.drop (k * 2) (dc M)) = [.int .i64 (e.1 : Int), .int .i64 (e.2 : Int)] := by
  obtain ⟨hk, rfl⟩ := List.getElem?_eq_some_iff.1 h
  exact flat_at dd 2 M k hk (fun _ _ => rfl)

set_option maxHeartbeats 4000000 in
set_option maxRecDepth 100000 in
theorem insert_ref (l : List (Nat × Nat)) (d : Nat × Nat) (f : Bool) (H : Heap) (hl : l.length ≤ 8000000) : CallOk Tryz.prog 18 [.slice (dc l) l.length f, .agg (dd d)] H (.slice (dc (insD l d)) (l.length + 1) false) H := by
  have ll := dc_lnC l
  unfold dd
  refine CallOk.body (F0 := [(0, .slice (dc l) l.length f), (1, .agg [.int .i64 d.1, .int .i64 d.2])]) Tryz.func18 rfl Tryz.ntmps18 Tryz.results18 rfl (by kernel_rfl) rfl ?_
  (repeat refine PW.seq ?_); refine PW.rg rfl fun K hK => ?_; simp (maxSteps := 3000000) (disch := omega) only [go_sem, ↓reduceIte, reduceCtorEq, pappend, plen]; refine hK _ _ ?_; clear hK K
  suffices hm : PW Tryz.prog _ _ [(3, .ptr H.length 0 0), (5, .msl (H.length + 1) (l.length * 2) 0 l.length 2 true)] (H ++ [⟨74, 0, [.int .i64 d.1, .int .i64 d.2]⟩, ⟨74, l.length * 2, dc l⟩]) _ by
    by_cases hl0 : l.length = 0
    · (repeat refine PW.seq ?_); refine PW.rg rfl fun K hK => ?_; simp (maxSteps := 3000000) (disch := omega) only [go_sem, ↓reduceIte, reduceCtorEq, pappend, plen, ll, hl0]; refine hK _ _ ?_; clear hK K
      refine PW.view (Vs.ghost 5 74 2 rfl) ?_
      have hd0 : dc l = [] := List.length_eq_zero_iff.1 (by rw [ll, hl0])
      exact PW.at [3, 5] hm (by rw [List.length_append, hl0]; rfl) (by rw [hd0, hl0]; simp)
    · (repeat refine PW.seq ?_); refine PW.rg rfl fun K hK => ?_; simp (maxSteps := 3000000) (disch := omega) only [go_sem, ↓reduceIte, reduceCtorEq, pappend, plen, ll, hl0]; refine hK _ _ ?_; clear hK K
      exact PW.at [3, 5] hm rfl rfl
  have e1 : dc l ++ [.int .i64 (d.1 : Int), .int .i64 (d.2 : Int)] = dc (insM l d l.length) := by
    unfold insM
    rw [List.take_length, List.drop_length, dc_append]; rfl
  have e2 : ((l.length + 1 : Nat) : Int) - 1 = ((l.length : Nat) : Int) := by omega
  have e4 : (dc (insM l d l.length)).length = (l.length + 1) * 2 := by rw [dc_lnC, insM_len (Nat.le_refl _)]
  (repeat refine PW.seq ?_); refine PW.rg rfl fun K hK => ?_; simp (maxSteps := 3000000) (disch := omega) only [go_sem, ↓reduceIte, reduceCtorEq, pappend, plen, ll, e1, e4]; refine hK _ _ ?_; clear hK K
  (repeat refine PW.seq ?_); refine PW.rg rfl fun K hK => ?_; simp (maxSteps := 3000000) (disch := omega) only [go_sem, ↓reduceIte, reduceCtorEq, pappend, plen, e2, e4]; refine hK _ _ ?_; clear hK K
  (repeat refine PW.seq ?_); refine PW.block (PW.loop ?_)
  suffices hl1 : ∀ i : Nat, i ≤ l.length → insK l d.1 i = insK l d.1 l.length → PL Tryz.prog _ _ [(5, .msl (H.length + 1) ((l.length + 1) * 2) 0 (l.length + 1) 2 true), (6, .int .i64 (i : Int))] (H ++ [⟨74, 0, [.int .i64 d.1, .int .i64 d.2]⟩, ⟨74, (l.length + 1) * 2, dc (insM l d i)⟩]) _ by
    exact PL.at [5, 6] (hl1 l.length (Nat.le_refl _) rfl) rfl rfl
  intro i
  suffices hE : ∀ i : Nat, i ≤ l.length → insK l d.1 l.length = i → Fin H (.slice (dc (insD l d)) (l.length + 1) false) H (.msl (H.length + 1) ((l.length + 1) * 2) 0 (l.length + 1) 2 true) (H ++ [⟨74, 0, [.int .i64 d.1, .int .i64 d.2]⟩, ⟨74, (l.length + 1) * 2, dc (insM l d i)⟩]) by
    induction i with
    | zero =>
      intro h0 hk
      have lM : (dc (insM l d 0)).length = (l.length + 1) * 2 := by rw [dc_lnC, insM_len h0]
      refine PL.round ?_
      (repeat refine PW.seq ?_); refine PW.drawg mix (by kernel_rfl) fun K hK => ?_; simp (maxSteps := 3000000) (disch := omega) only [go_sem, ↓reduceIte, reduceCtorEq, pappend, plen, lM]; refine hK _ _ ?_; clear hK K
      (repeat refine PW.seq ?_); refine PW.cond (t := _) rfl (fun h => ?_) (fun h => ?_)
      · cases h
      refine PW.exit ?_
      (repeat refine PW.seq ?_); refine PW.rg rfl fun K hK => ?_; simp (maxSteps := 3000000) (disch := omega) only [go_sem, ↓reduceIte, reduceCtorEq, pappend, plen]; refine hK _ _ ?_; clear hK K
      refine PW.ret ⟨.msl (H.length + 1) ((l.length + 1) * 2) 0 (l.length + 1) 2 true, by simp (maxSteps := 3000000) (disch := omega) only [go_sem, ↓reduceIte, reduceCtorEq, pappend, plen, presults, presult, List.mapM_cons, List.mapM_nil, Option.pure_def, Option.bind_eq_bind, Option.bind_some, Array.toList], ?_⟩
      exact hE 0 h0 hk.symm
    | succ i ih =>
      intro hi hk
      have lM : (dc (insM l d (i + 1))).length = (l.length + 1) * 2 := by rw [dc_lnC, insM_len hi]
      have hil : i < l.length := by omega
      have m0 := insM_0 (l := l) (d := d) hi
      have m1 := insM_1 (d := d) hil
      rw [List.getElem?_eq_getElem hil] at m1
      have f0 := dc_at0 m0
      have f1 := dc_at0 m1
      have g0 := dc_at2 m0
      have g1 := dc_at2 m1
      have sw := insM_swap (d := d) hil
      rw [insK, List.getElem?_eq_getElem hil] at hk
      dsimp only at hk
      have dp : decide ((0 : Int) < ((i + 1 : Nat) : Int)) = true := decide_eq_true (by omega)
      have ei : ((i + 1 : Nat) : Int) - 1 = ((i : Nat) : Int) := by omega
      refine PL.round ?_
      by_cases hd : d.1 < l[i].1
      · rw [if_pos hd] at hk
        have dd1 : decide ((d.1 : Int) < (l[i].1 : Int)) = true := decide_eq_true (by omega)
        have lS : (dc ((insM l d (i + 1)).set (i + 1) l[i])).length = (l.length + 1) * 2 := by rw [dc_lnC, List.length_set, insM_len hi]
        have p1 := dc_put (insM l d (i + 1)) (i + 1) l[i] (by rw [insM_len hi]; omega)
        have p2 := dc_put ((insM l d (i + 1)).set (i + 1) l[i]) i d (by rw [List.length_set, insM_len hi]; omega)
        rw [sw] at p2
        have ih' := ih (by omega) hk
        generalize l[i] = e at *
        (repeat refine PW.seq ?_); refine PW.drawg mix (by kernel_rfl) fun K hK => ?_; simp (maxSteps := 3000000) (disch := omega) only [go_sem, ↓reduceIte, reduceCtorEq, pappend, plen, lM, dp, ei, f0, f1, dd1]; refine hK _ _ ?_; clear hK K
        (repeat refine PW.seq ?_); refine PW.cond (t := _) rfl (fun h => ?_) (fun h => ?_)
        rotate_left
        · cases h
        refine PW.skip ?_; (repeat refine PW.seq ?_); refine PW.block ?_
        (repeat refine PW.seq ?_); refine PW.drawi [H.length + 1] [(35, [0]), (37, [0]), (40, [0]), (43, [0]), (45, [0]), (47, [0]), (49, [0]), (50, [0])] [] [] mix (by kernel_rfl) (by simp <;> omega) fun K hK => ?_
        simp (maxSteps := 3000000) (disch := omega) only [go_sem, ↓reduceIte, reduceCtorEq, pappend, plen, lM, lS, ei, g0, g1, p1, p2, arith]
        refine hK _ _ ?_; clear hK K
        (repeat refine PW.seq ?_); refine PW.rg rfl fun K hK => ?_; simp (maxSteps := 3000000) (disch := omega) only [go_sem, ↓reduceIte, reduceCtorEq, pappend, plen, ei]; refine hK _ _ ?_; clear hK K
        exact PL.at [5, 6] ih' rfl rfl
      · rw [if_neg hd] at hk
        have dd1 : decide ((d.1 : Int) < (l[i].1 : Int)) = false := decide_eq_false (by omega)
        (repeat refine PW.seq ?_); refine PW.drawg mix (by kernel_rfl) fun K hK => ?_; simp (maxSteps := 3000000) (disch := omega) only [go_sem, ↓reduceIte, reduceCtorEq, pappend, plen, lM, dp, ei, f0, f1, dd1]; refine hK _ _ ?_; clear hK K
        (repeat refine PW.seq ?_); refine PW.cond (t := _) rfl (fun h => ?_) (fun h => ?_)
        · cases h
        refine PW.exit ?_
        (repeat refine PW.seq ?_); refine PW.rg rfl fun K hK => ?_; simp (maxSteps := 3000000) (disch := omega) only [go_sem, ↓reduceIte, reduceCtorEq, pappend, plen]; refine hK _ _ ?_; clear hK K
        refine PW.ret ⟨.msl (H.length + 1) ((l.length + 1) * 2) 0 (l.length + 1) 2 true, by simp (maxSteps := 3000000) (disch := omega) only [go_sem, ↓reduceIte, reduceCtorEq, pappend, plen, presults, presult, List.mapM_cons, List.mapM_nil, Option.pure_def, Option.bind_eq_bind, Option.bind_some, Array.toList], ?_⟩
        exact hE (i + 1) hi hk.symm
  intro i hi hk
  have e3 : insD l d = insM l d i := by unfold insD insM; rw [hk]
  rw [e3]
  exact Fin.base (Fz.mslC (e := 74) (xs := dc (insM l d i)) (by omega) (apn H _ 1) (by rw [dc_lnC, insM_len hi]) (FzC.refl (dc_sc _ _)))

end Go.Proofs.YtbhdollgohgkgaaGreatDoor.Sc
