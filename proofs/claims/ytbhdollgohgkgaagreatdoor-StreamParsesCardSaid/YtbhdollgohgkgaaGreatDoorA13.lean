/-
  Parts of the proof. No condition.
-/
import Derived.Test.YtbhdollgohgkgaaGreatDoorA11
import Derived.Test.YtbhdollgohgkgaaGreatDoorA12
import Derived.Test.YtbhdollgohgkgaaGreatDoorA07
namespace Go.Proofs.YtbhdollgohgkgaaGreatDoor.Sc
set_option linter.all false
set_option linter.unusedVariables false
set_option linter.unusedSimpArgs false
open Pm Ty Go.RowKit

theorem eqGrs (a b : Bool) (t : Int) : peqG Tryz.prog .eql 53 (.agg [.bool a, .bool b, .int .i64 t]) (.agg [.bool a, .bool b, .int .i64 t]) = some (.bool true) := by
  have e : ∀ a' b' t', peqG Tryz.prog .eql 53 (.agg [.bool a, .bool b, .int .i64 t]) (.agg [.bool a', .bool b', .int .i64 t']) = some (.bool ((a == a') && ((b == b') && ((t == t') && true)))) := fun _ _ _ => by kernel_rfl
  rw [e]; simp

theorem sameUnits_ok (us : List (Int × List UInt8)) (f g : Bool) (H : Heap) (hu : us.length ≤ 2000000) : CallOk Tryz.prog 70 [.slice (uq us) us.length f, .slice (uq us) us.length g] H (.bool true) H := by
  have ql := uq_len us
  refine CallOk.body (F0 := [(0, .slice (uq us) us.length f), (1, .slice (uq us) us.length g)]) Tryz.func70 rfl Tryz.ntmps70 Tryz.results70 rfl (by kernel_rfl) rfl ?_
  (repeat refine PW.seq ?_); refine PW.rg rfl fun K hK => ?_; simp (maxSteps := 3000000) (disch := omega) only [go_sem, ↓reduceIte, reduceCtorEq, pappend, plen]; refine hK _ _ ?_; clear hK K
  (repeat refine PW.seq ?_); refine PW.rg rfl fun K hK => ?_; simp (maxSteps := 3000000) (disch := omega) only [go_sem, ↓reduceIte, reduceCtorEq, pappend, plen, ql, bne_self_eq_false]; refine hK _ _ ?_; clear hK K
  (repeat refine PW.seq ?_); refine PW.cond (t := _) rfl (fun h => ?_) (fun h => ?_)
  · cases h
  refine PW.skip ?_
  (repeat refine PW.seq ?_); refine PW.rg rfl fun K hK => ?_; simp (maxSteps := 3000000) (disch := omega) only [go_sem, ↓reduceIte, reduceCtorEq, pappend, plen]; refine hK _ _ ?_; clear hK K
  (repeat refine PW.seq ?_); refine PW.block (PW.loop ?_)
  suffices hl1 : ∀ j : Nat, j ≤ us.length → PL Tryz.prog _ _ [(0, .slice (uq us) us.length f), (1, .slice (uq us) us.length g), (5, .int .i64 (j : Int))] H _ by
    exact PL.at [0, 1, 5] (hl1 0 (by omega)) rfl rfl
  refine cnt us.length (fun j hj ih => ?_) ?_
  · have ct := lt_t hj
    have ea := uq_at us j hj
    generalize us[j] = u at *
    have ss := fun K => sameunit_ok u.1 u.1 u.2 u.2 false false K
    simp only [beq_self_eq_true, Bool.and_self] at ss
    unfold uq1 at ea
    refine PL.round ?_; (repeat refine PW.seq ?_); refine PW.rg rfl fun K hK => ?_; simp (maxSteps := 3000000) (disch := omega) only [go_sem, ↓reduceIte, reduceCtorEq, pappend, plen, ct, ql]; refine hK _ _ ?_; clear hK K; (repeat refine PW.seq ?_); refine PW.cond (t := _) rfl (fun h => ?_) (fun h => ?_)
    rotate_left
    · cases h
    refine PW.skip ?_; (repeat refine PW.seq ?_); refine PW.block ?_
    (repeat refine PW.seq ?_); refine PW.drawg mix (by kernel_rfl) fun K hK => ?_; simp (maxSteps := 3000000) (disch := omega) only [go_sem, ↓reduceIte, reduceCtorEq, pappend, plen, ql, ea]
    refine VCz.call (fun _ => ss _) rfl ?_
    simp (maxSteps := 3000000) (disch := omega) only [go_sem, ↓reduceIte, reduceCtorEq, pappend, plen]
    refine hK _ _ ?_; clear hK K
    (repeat refine PW.seq ?_); refine PW.cond (t := _) rfl (fun h => ?_) (fun h => ?_)
    · cases h
    refine PW.skip ?_
    (repeat refine PW.seq ?_); refine PW.rg rfl fun K hK => ?_; simp (maxSteps := 3000000) (disch := omega) only [go_sem, ↓reduceIte, reduceCtorEq, pappend, plen]; refine hK _ _ ?_; clear hK K
    exact PL.at [0, 1, 5] ih rfl rfl
  · refine PL.round ?_; (repeat refine PW.seq ?_); refine PW.rg rfl fun K hK => ?_; simp (maxSteps := 3000000) (disch := omega) only [go_sem, ↓reduceIte, reduceCtorEq, pappend, plen, lt_f us.length, ql]; refine hK _ _ ?_; clear hK K; (repeat refine PW.seq ?_); refine PW.cond (t := _) rfl (fun h => ?_) (fun h => ?_)
    · cases h
    refine PW.exit ?_
    (repeat refine PW.seq ?_); refine PW.rg rfl fun K hK => ?_; simp (maxSteps := 3000000) (disch := omega) only [go_sem, ↓reduceIte, reduceCtorEq, pappend, plen]; refine hK _ _ ?_; clear hK K
    refine PW.ret ⟨.bool true, by simp (maxSteps := 3000000) (disch := omega) only [go_sem, ↓reduceIte, reduceCtorEq, pappend, plen, presults, presult, List.mapM_cons, List.mapM_nil, Option.pure_def, Option.bind_eq_bind, Option.bind_some, Array.toList], ?_⟩
    exact Fin.now

set_option maxHeartbeats 4000000 in
set_option maxRecDepth 100000 in
theorem sameCoded_ok (p : Pi) (U : List (List UInt8)) (us : List (Int × List UInt8)) (H : Heap) (hU : U.length ≤ 2000000) (hu : us.length ≤ 2000000) : CallOk Tryz.prog 38 [.agg (cdc p U us), .agg (cdc p U us)] H (.bool true) H := by
  have d1 : decide ("Type" = "_") = false := by decide
  have d2 : decide ("Structure" = "_") = false := by decide
  have d3 : decide ("Order" = "_") = false := by decide
  have d4 : decide ("TopFirst" = "_") = false := by decide
  have d5 : decide ("Repeat" = "_") = false := by decide
  have d6 : decide ("Alternate" = "_") = false := by decide
  have c1 := cdc_cell p U us
  have c2 := cdc_len p U us
  have c3 := cdc_p p U us
  have c6 : (cdc p U us)[6]? = some (usr U) := rfl
  have c7 := cdc_7 p U us
  have ul := usr_l U
  have ql := uq_len us
  have su := fun K => sameUnits_ok us false false K hu
  have ep : peqG Tryz.prog .neq 55 (.agg (pic p)) (.agg (pic p)) = some (.bool false) := by
    have e : ∀ q : Pi, peqG Tryz.prog .neq 55 (.agg (pic p)) (.agg (pic q)) = some (.bool !((p.ty == q.ty) && ((p.st == q.st) && ((p.od == q.od) && ((p.tf == q.tf) && ((p.rp == q.rp) && ((p.al == q.al) && true))))))) := fun q => by kernel_rfl
    rw [e]; simp
  refine CallOk.body (F0 := [(0, .agg (cdc p U us)), (1, .agg (cdc p U us))]) Tryz.func38 rfl Tryz.ntmps38 Tryz.results38 rfl (by kernel_rfl) rfl ?_
  (repeat refine PW.seq ?_); refine PW.rg rfl fun K hK => ?_; simp (maxSteps := 3000000) (disch := omega) only [go_sem, ↓reduceIte, reduceCtorEq, pappend, plen, c1]; refine hK _ _ ?_; clear hK K
  (repeat refine PW.seq ?_); refine PW.rg rfl fun K hK => ?_; simp (maxSteps := 3000000) (disch := omega) only [go_sem, ↓reduceIte, reduceCtorEq, pappend, plen, c2, c3, c6, c7, usr, ↓ep, ul, ql, bne_self_eq_false]; refine VCx.call (su _) rfl ?_; simp (maxSteps := 3000000) (disch := omega) only [go_sem, ↓reduceIte, reduceCtorEq, pappend, plen]; refine hK _ _ ?_; clear hK K
  (repeat refine PW.seq ?_); refine PW.cond (t := _) rfl (fun h => ?_) (fun h => ?_)
  · cases h
  refine PW.skip ?_
  (repeat refine PW.seq ?_); refine PW.rg rfl fun K hK => ?_; simp (maxSteps := 3000000) (disch := omega) only [go_sem, ↓reduceIte, reduceCtorEq, pappend, plen]; refine hK _ _ ?_; clear hK K
  (repeat refine PW.seq ?_); refine PW.block (PW.loop ?_)
  suffices hl1 : ∀ j : Nat, j ≤ U.length → PL Tryz.prog _ _ [(2, .ptr H.length 0 0), (3, .ptr (H.length + 1) 0 0), (5, .int .i64 (j : Int))] (H ++ [⟨59, 0, cdc p U us⟩, ⟨59, 0, cdc p U us⟩]) _ by
    exact PL.at [2, 3, 5] (hl1 0 (by omega)) rfl rfl
  refine cnt U.length (fun j hj ih => ?_) ?_
  · have ct := lt_t hj
    have ea := usr_at U j hj
    generalize U[j] = u at *
    have ss := fun K => same_okP u u false false K
    simp only [beq_self_eq_true] at ss
    refine PL.round ?_; (repeat refine PW.seq ?_); refine PW.rg rfl fun K hK => ?_; simp (maxSteps := 3000000) (disch := omega) only [go_sem, ↓reduceIte, reduceCtorEq, pappend, plen, ct, c6, usr, ul]; refine hK _ _ ?_; clear hK K; (repeat refine PW.seq ?_); refine PW.cond (t := _) rfl (fun h => ?_) (fun h => ?_)
    rotate_left
    · cases h
    refine PW.skip ?_; (repeat refine PW.seq ?_); refine PW.block ?_
    (repeat refine PW.seq ?_); refine PW.drawg mix (by kernel_rfl) fun K hK => ?_; simp (maxSteps := 3000000) (disch := omega) only [go_sem, ↓reduceIte, reduceCtorEq, pappend, plen, c6, usr, ul, ea]
    refine VCz.call (fun _ => ss _) rfl ?_
    simp (maxSteps := 3000000) (disch := omega) only [go_sem, ↓reduceIte, reduceCtorEq, pappend, plen]
    refine hK _ _ ?_; clear hK K
    (repeat refine PW.seq ?_); refine PW.cond (t := _) rfl (fun h => ?_) (fun h => ?_)
    · cases h
    refine PW.skip ?_
    (repeat refine PW.seq ?_); refine PW.rg rfl fun K hK => ?_; simp (maxSteps := 3000000) (disch := omega) only [go_sem, ↓reduceIte, reduceCtorEq, pappend, plen]; refine hK _ _ ?_; clear hK K
    exact PL.at [2, 3, 5] ih rfl rfl
  · refine PL.round ?_; (repeat refine PW.seq ?_); refine PW.rg rfl fun K hK => ?_; simp (maxSteps := 3000000) (disch := omega) only [go_sem, ↓reduceIte, reduceCtorEq, pappend, plen, lt_f U.length, c6, usr, ul]; refine hK _ _ ?_; clear hK K; (repeat refine PW.seq ?_); refine PW.cond (t := _) rfl (fun h => ?_) (fun h => ?_)
    · cases h
    refine PW.exit ?_
    (repeat refine PW.seq ?_); refine PW.rg rfl fun K hK => ?_; simp (maxSteps := 3000000) (disch := omega) only [go_sem, ↓reduceIte, reduceCtorEq, pappend, plen]; refine hK _ _ ?_; clear hK K
    refine PW.ret ⟨.bool true, by simp (maxSteps := 3000000) (disch := omega) only [go_sem, ↓reduceIte, reduceCtorEq, pappend, plen, presults, presult, List.mapM_cons, List.mapM_nil, Option.pure_def, Option.bind_eq_bind, Option.bind_some, Array.toList], ?_⟩
    exact Fin.base (.id (.bool _))

/-- Two items are the same, as far as their kind says. -/
structure SmI (x y : It) : Prop where
  k : y.k = x.k
  pad : y.pad = x.pad
  s : x.k = 1 → y.s = x.s
  g : x.k = 2 → y.gc = x.gc ∧ y.gb = x.gb ∧ y.gt = x.gt
  c : x.k = 3 → y.p = x.p ∧ y.U = x.U ∧ y.us = x.us
theorem SmI.rfl' (x : It) : SmI x x := ⟨rfl, rfl, fun _ => rfl, fun _ => ⟨rfl, rfl, rfl⟩, fun _ => ⟨rfl, rfl, rfl⟩⟩

set_option maxHeartbeats 4000000 in
set_option maxRecDepth 100000 in
theorem sameItem_ok (x y : It) (H : Heap) (hm : SmI x y) (hx : SqOk x.s) (hy : SqOk y.s) (hU : x.U.length ≤ 2000000) (hu : x.us.length ≤ 2000000) : CallOk Tryz.prog 21 [.agg (itc x), .agg (itc y)] H (.bool true) H := by
  have cx := itc_cell x
  have cy := itc_cell y
  have lx := itc_len x hx
  have ly := itc_len y hy
  have x0 := itc_0 x
  have y0 := itc_0 y
  have xp := itc_pad x hx
  have yp := itc_pad y hy
  rw [hm.k] at y0
  rw [hm.pad] at yp
  refine CallOk.body (F0 := [(0, .agg (itc x)), (1, .agg (itc y))]) Tryz.func21 rfl Tryz.ntmps21 Tryz.results21 rfl (by kernel_rfl) rfl ?_
  (repeat refine PW.seq ?_); refine PW.rg rfl fun K hK => ?_; simp (maxSteps := 3000000) (disch := omega) only [go_sem, ↓reduceIte, reduceCtorEq, pappend, plen, cx, cy]; refine hK _ _ ?_; clear hK K
  (repeat refine PW.seq ?_); refine PW.rg rfl fun K hK => ?_; simp (maxSteps := 3000000) (disch := omega) only [go_sem, ↓reduceIte, reduceCtorEq, pappend, plen, x0, y0, xp, yp, lx, ly, bne_self_eq_false]; refine hK _ _ ?_; clear hK K
  (repeat refine PW.seq ?_); refine PW.cond (t := _) rfl (fun h => ?_) (fun h => ?_)
  · cases h
  refine PW.skip ?_
  (repeat refine PW.seq ?_); refine PW.rg rfl fun K hK => ?_; simp (maxSteps := 3000000) (disch := omega) only [go_sem, ↓reduceIte, reduceCtorEq, pappend, plen, x0, lx]; refine hK _ _ ?_; clear hK K
  refine PW.block ?_
  by_cases k1 : x.k = 1
  · have b1 : (x.k == 1) = true := by simp [k1]
    have sx := itc_s x hx
    have sy := itc_s y hy
    rw [hm.s k1] at sy
    have eq := eqSq x.s x.s ⟨hx.ia, hx.ie⟩ ⟨hx.ia, hx.ie⟩
    rw [show sqE x.s x.s = true by simp [sqE, sqA]] at eq
    (repeat refine PW.seq ?_); refine PW.rg rfl fun K hK => ?_; simp (maxSteps := 3000000) (disch := omega) only [go_sem, ↓reduceIte, reduceCtorEq, pappend, plen, b1]; refine hK _ _ ?_; clear hK K
    (repeat refine PW.seq ?_); refine PW.cond (t := _) rfl (fun h => ?_) (fun h => ?_)
    rotate_left
    · cases h
    (repeat refine PW.seq ?_); refine PW.rg rfl fun K hK => ?_; simp (maxSteps := 3000000) (disch := omega) only [go_sem, ↓reduceIte, reduceCtorEq, pappend, plen, lx, ly, sx, sy, ↓eq]; refine hK _ _ ?_; clear hK K
    refine PW.ret ⟨.bool true, by simp (maxSteps := 3000000) (disch := omega) only [go_sem, ↓reduceIte, reduceCtorEq, pappend, plen, presults, presult, List.mapM_cons, List.mapM_nil, Option.pure_def, Option.bind_eq_bind, Option.bind_some, Array.toList], ?_⟩
    exact Fin.base (.id (.bool _))
  have b1 : (x.k == 1) = false := by simp [k1]
  (repeat refine PW.seq ?_); refine PW.rg rfl fun K hK => ?_; simp (maxSteps := 3000000) (disch := omega) only [go_sem, ↓reduceIte, reduceCtorEq, pappend, plen, b1]; refine hK _ _ ?_; clear hK K
  (repeat refine PW.seq ?_); refine PW.cond (t := _) rfl (fun h => ?_) (fun h => ?_)
  · cases h
  by_cases k2 : x.k = 2
  · have b2 : (x.k == 2) = true := by simp [k2]
    have gx := itc_g x hx
    have gy := itc_g y hy
    obtain ⟨e1, e2, e3⟩ := hm.g k2
    rw [e1, e2, e3] at gy
    have eq := eqGrs x.gc x.gb x.gt
    (repeat refine PW.seq ?_); refine PW.rg rfl fun K hK => ?_; simp (maxSteps := 3000000) (disch := omega) only [go_sem, ↓reduceIte, reduceCtorEq, pappend, plen, b2]; refine hK _ _ ?_; clear hK K
    (repeat refine PW.seq ?_); refine PW.cond (t := _) rfl (fun h => ?_) (fun h => ?_)
    rotate_left
    · cases h
    (repeat refine PW.seq ?_); refine PW.rg rfl fun K hK => ?_; simp (maxSteps := 3000000) (disch := omega) only [go_sem, ↓reduceIte, reduceCtorEq, pappend, plen, lx, ly, gx, gy, ↓eq]; refine hK _ _ ?_; clear hK K
    refine PW.ret ⟨.bool true, by simp (maxSteps := 3000000) (disch := omega) only [go_sem, ↓reduceIte, reduceCtorEq, pappend, plen, presults, presult, List.mapM_cons, List.mapM_nil, Option.pure_def, Option.bind_eq_bind, Option.bind_some, Array.toList], ?_⟩
    exact Fin.base (.id (.bool _))
  have b2 : (x.k == 2) = false := by simp [k2]
  (repeat refine PW.seq ?_); refine PW.rg rfl fun K hK => ?_; simp (maxSteps := 3000000) (disch := omega) only [go_sem, ↓reduceIte, reduceCtorEq, pappend, plen, b2]; refine hK _ _ ?_; clear hK K
  (repeat refine PW.seq ?_); refine PW.cond (t := _) rfl (fun h => ?_) (fun h => ?_)
  · cases h
  by_cases k3 : x.k = 3
  · have b3 : (x.k == 3) = true := by simp [k3]
    have gx := itc_c x hx
    have gy := itc_c y hy
    obtain ⟨e1, e2, e3⟩ := hm.c k3
    rw [e1, e2, e3] at gy
    have sc := fun K => sameCoded_ok x.p x.U x.us K hU hu
    (repeat refine PW.seq ?_); refine PW.rg rfl fun K hK => ?_; simp (maxSteps := 3000000) (disch := omega) only [go_sem, ↓reduceIte, reduceCtorEq, pappend, plen, b3]; refine hK _ _ ?_; clear hK K
    (repeat refine PW.seq ?_); refine PW.cond (t := _) rfl (fun h => ?_) (fun h => ?_)
    rotate_left
    · cases h
    (repeat refine PW.seq ?_); refine PW.rg rfl fun K hK => ?_; simp (maxSteps := 3000000) (disch := omega) only [go_sem, ↓reduceIte, reduceCtorEq, pappend, plen, lx, ly, gx, gy]; refine VCx.call (sc _) rfl ?_; simp (maxSteps := 3000000) (disch := omega) only [go_sem, ↓reduceIte, reduceCtorEq, pappend, plen]; refine hK _ _ ?_; clear hK K
    refine PW.ret ⟨.bool true, by simp (maxSteps := 3000000) (disch := omega) only [go_sem, ↓reduceIte, reduceCtorEq, pappend, plen, presults, presult, List.mapM_cons, List.mapM_nil, Option.pure_def, Option.bind_eq_bind, Option.bind_some, Array.toList], ?_⟩
    exact Fin.base (.id (.bool _))
  have b3 : (x.k == 3) = false := by simp [k3]
  (repeat refine PW.seq ?_); refine PW.rg rfl fun K hK => ?_; simp (maxSteps := 3000000) (disch := omega) only [go_sem, ↓reduceIte, reduceCtorEq, pappend, plen, b3]; refine hK _ _ ?_; clear hK K
  (repeat refine PW.seq ?_); refine PW.cond (t := _) rfl (fun h => ?_) (fun h => ?_)
  · cases h
  refine PW.skip ?_
  (repeat refine PW.seq ?_); refine PW.rg rfl fun K hK => ?_; simp (maxSteps := 3000000) (disch := omega) only [go_sem, ↓reduceIte, reduceCtorEq, pappend, plen]; refine hK _ _ ?_; clear hK K
  refine PW.ret ⟨.bool true, by simp (maxSteps := 3000000) (disch := omega) only [go_sem, ↓reduceIte, reduceCtorEq, pappend, plen, presults, presult, List.mapM_cons, List.mapM_nil, Option.pure_def, Option.bind_eq_bind, Option.bind_some, Array.toList], ?_⟩
  exact Fin.base (.id (.bool _))

set_option maxHeartbeats 4000000 in
set_option maxRecDepth 100000 in
theorem sameItems_ok (l m : List It) (f g : Bool) (H : Heap) (hln : m.length = l.length) (hm : ∀ k (h : k < l.length) (h' : k < m.length), SmI l[k] m[k]) (hl : ∀ x ∈ l, SqOk x.s) (hm' : ∀ x ∈ m, SqOk x.s) (hn : l.length ≤ 2000000) (hU : ∀ x ∈ l, x.U.length ≤ 2000000 ∧ x.us.length ≤ 2000000) : CallOk Tryz.prog 7 [.slice (itL l) l.length f, .slice (itL m) m.length g] H (.bool true) H := by
  have ll := itL_len l hl
  have lm := itL_len m hm'
  rw [hln] at lm ⊢
  refine CallOk.body (F0 := [(0, .slice (itL l) l.length f), (1, .slice (itL m) l.length g)]) Tryz.func7 rfl Tryz.ntmps7 Tryz.results7 rfl (by kernel_rfl) rfl ?_
  (repeat refine PW.seq ?_); refine PW.rg rfl fun K hK => ?_; simp (maxSteps := 3000000) (disch := omega) only [go_sem, ↓reduceIte, reduceCtorEq, pappend, plen]; refine hK _ _ ?_; clear hK K
  (repeat refine PW.seq ?_); refine PW.rg rfl fun K hK => ?_; simp (maxSteps := 3000000) (disch := omega) only [go_sem, ↓reduceIte, reduceCtorEq, pappend, plen, ll, lm, bne_self_eq_false]; refine hK _ _ ?_; clear hK K
  (repeat refine PW.seq ?_); refine PW.cond (t := _) rfl (fun h => ?_) (fun h => ?_)
  · cases h
  refine PW.skip ?_
  (repeat refine PW.seq ?_); refine PW.rg rfl fun K hK => ?_; simp (maxSteps := 3000000) (disch := omega) only [go_sem, ↓reduceIte, reduceCtorEq, pappend, plen]; refine hK _ _ ?_; clear hK K
  (repeat refine PW.seq ?_); refine PW.block (PW.loop ?_)
  suffices hl1 : ∀ j : Nat, j ≤ l.length → PL Tryz.prog _ _ [(0, .slice (itL l) l.length f), (1, .slice (itL m) l.length g), (5, .int .i64 (j : Int))] H _ by
    exact PL.at [0, 1, 5] (hl1 0 (by omega)) rfl rfl
  refine cnt l.length (fun j hj ih => ?_) ?_
  · have ct := lt_t hj
    have hj' : j < m.length := by omega
    have ea := itL_at l hl j hj
    have eb := itL_at m hm' j hj'
    have ss := fun K => sameItem_ok l[j] m[j] K (hm j hj hj') (hl _ (List.getElem_mem hj)) (hm' _ (List.getElem_mem hj')) (hU _ (List.getElem_mem hj)).1 (hU _ (List.getElem_mem hj)).2
    generalize l[j] = x at *
    generalize m[j] = y at *
    refine PL.round ?_; (repeat refine PW.seq ?_); refine PW.rg rfl fun K hK => ?_; simp (maxSteps := 3000000) (disch := omega) only [go_sem, ↓reduceIte, reduceCtorEq, pappend, plen, ct, ll]; refine hK _ _ ?_; clear hK K; (repeat refine PW.seq ?_); refine PW.cond (t := _) rfl (fun h => ?_) (fun h => ?_)
    rotate_left
    · cases h
    refine PW.skip ?_; (repeat refine PW.seq ?_); refine PW.block ?_
    (repeat refine PW.seq ?_); refine PW.drawg mix (by kernel_rfl) fun K hK => ?_; simp (maxSteps := 3000000) (disch := omega) only [go_sem, ↓reduceIte, reduceCtorEq, pappend, plen, ll, lm, ea, eb]
    refine VCz.call (fun _ => ss _) rfl ?_
    simp (maxSteps := 3000000) (disch := omega) only [go_sem, ↓reduceIte, reduceCtorEq, pappend, plen]
    refine hK _ _ ?_; clear hK K
    (repeat refine PW.seq ?_); refine PW.cond (t := _) rfl (fun h => ?_) (fun h => ?_)
    · cases h
    refine PW.skip ?_
    (repeat refine PW.seq ?_); refine PW.rg rfl fun K hK => ?_; simp (maxSteps := 3000000) (disch := omega) only [go_sem, ↓reduceIte, reduceCtorEq, pappend, plen]; refine hK _ _ ?_; clear hK K
    exact PL.at [0, 1, 5] ih rfl rfl
  · refine PL.round ?_; (repeat refine PW.seq ?_); refine PW.rg rfl fun K hK => ?_; simp (maxSteps := 3000000) (disch := omega) only [go_sem, ↓reduceIte, reduceCtorEq, pappend, plen, lt_f l.length, ll]; refine hK _ _ ?_; clear hK K; (repeat refine PW.seq ?_); refine PW.cond (t := _) rfl (fun h => ?_) (fun h => ?_)
    · cases h
    refine PW.exit ?_
    (repeat refine PW.seq ?_); refine PW.rg rfl fun K hK => ?_; simp (maxSteps := 3000000) (disch := omega) only [go_sem, ↓reduceIte, reduceCtorEq, pappend, plen]; refine hK _ _ ?_; clear hK K
    refine PW.ret ⟨.bool true, by simp (maxSteps := 3000000) (disch := omega) only [go_sem, ↓reduceIte, reduceCtorEq, pappend, plen, presults, presult, List.mapM_cons, List.mapM_nil, Option.pure_def, Option.bind_eq_bind, Option.bind_some, Array.toList], ?_⟩
    exact Fin.now

end Go.Proofs.YtbhdollgohgkgaaGreatDoor.Sc
