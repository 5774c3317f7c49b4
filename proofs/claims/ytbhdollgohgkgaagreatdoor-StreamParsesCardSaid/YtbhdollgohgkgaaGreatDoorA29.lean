/-
  Parts of the proof. No condition.
-/
import Derived.Test.YtbhdollgohgkgaaGreatDoorA25
import Derived.Test.YtbhdollgohgkgaaGreatDoorA28
import Derived.Test.YtbhdollgohgkgaaGreatDoorA24
namespace Go.Proofs.YtbhdollgohgkgaaGreatDoor.Sc
set_option linter.all false
set_option linter.unusedVariables false
set_option linter.unusedSimpArgs false
open Pm Ty S3 Go.RowKit

/-! ### memory between two units -/
def mU2 (j n : Nat) : PV := .msl (j + 1) n 0 n 1 true
def mS2 (j n : Nat) : PV := .msl (j + 2) (n * 2) 0 n 2 true
def qgF (H : Heap) (D : List (Nat × Nat)) (us : List Fnd) (N : Nat) (op : Bool) (np j : Nat) : Fr := [(5, .slice (fc us) us.length false), (6, .slice (dc D) D.length false), (7, .msl H.length (N * 148) 0 N 148 true), (8, .bool op), (9, .int .i64 (np : Int)), (10, .int .i64 (j : Int))]
def qgC (H : Heap) (pre : List It) : Heap := H ++ [imB pre.length (itL pre)]
def qgO (H : Heap) (pre : List It) (x : It) : Heap := H ++ [imB (pre.length + 1) (itL pre ++ itq x (mU2 H.length x.U.length) (mS2 H.length x.us.length)), ucB x.U.length (x.U.flatMap usr1), scB x.us]
def qgH (H : Heap) (s : PSt) : Heap := match s.cur with
  | some x => qgO H s.pre x
  | none => qgC H s.pre
theorem qgC_len (H : Heap) (pre : List It) : (qgC H pre).length = H.length + 1 := by simp [qgC]
theorem qgO_len (H : Heap) (pre : List It) (x : It) : (qgO H pre x).length = H.length + 3 := by simp [qgO]
theorem qgF_z {n : Nat} {H Hx : Heap} {D : List (Nat × Nat)} {us : List Fnd} {N np j : Nat} {op : Bool} (hn : H.length < n) : FzF n Hx (qgF H D us N op np j) (qgF H D us N op np j) :=
  ⟨.id (sl_scoped (fc_sc _ _)), .id (sl_scoped (dc_sc _ _)), .id (.msl hn), .id (.bool _), .id (.int _ _), .id (.int _ _), trivial⟩
/-- The open picture's slices are complete. -/
theorem qg_close {H : Heap} {pre : List It} {x : It} (h : HSc H) : CutH (qgO H pre x) (qgC H (pre ++ [x])) := by
  have hl : (pre ++ [x]).length = pre.length + 1 := by simp
  have e : itL (pre ++ [x]) = itL pre ++ itc x := by simp [itL]
  unfold qgC qgO
  rw [hl, e]
  refine CutH.of (A := H) (L := [imB (pre.length + 1) (itL pre ++ itq x (mU2 H.length x.U.length) (mS2 H.length x.us.length))]) (K := [ucB x.U.length (x.U.flatMap usr1), scB x.us]) (L1 := [imB (pre.length + 1) (itL pre ++ itc x)]) h ?_ |> fun h => by simpa using h
  refine ⟨rfl, rfl, ?_, trivial⟩
  refine FzC.append (FzC.refl (itL_sc _ _)) ?_
  rw [← itq_c]
  unfold itq
  refine ⟨.id (.int _ _), FzC.append (FzC.refl (sqc_scoped _ _)) ⟨.id (.bool _), .id (.bool _), .id (.int _ _), FzC.append (FzC.refl (pic_scV _ _)) ⟨?_, ?_, .id (.int _ _), trivial⟩⟩⟩
  · exact Fz.mslC (e := 22) (xs := x.U.flatMap usr1) (by simp) (by rw [List.append_assoc]; exact apn H _ 1) (by rw [usr_l]; omega) (FzC.refl (ucB_sc _ _))
  · exact Fz.mslC (e := 41) (xs := uq x.us) (by simp) (by rw [List.append_assoc]; exact apn H _ 2) (uq_len _) (FzC.refl (uq_sc _ _))
theorem qg_dropC {H : Heap} {pre : List It} (k : Heap) (h : HSc H) : CutH (qgC H pre ++ k) (qgC H pre) := by
  unfold qgC
  exact CutH.of (A := H) (L := [imB pre.length (itL pre)]) (K := k) (L1 := [imB pre.length (itL pre)]) h ⟨rfl, rfl, FzC.refl (itL_sc _ _), trivial⟩
theorem qg_dropN {H : Heap} {pre : List It} {y : It} (k : Heap) (hU : y.U = []) (hs : y.us = []) (h : HSc H) : CutH (H ++ [imB (pre.length + 1) (itL pre ++ itq y nl0 nl0)] ++ k) (qgC H (pre ++ [y])) := by
  have hl : (pre ++ [y]).length = pre.length + 1 := by simp
  have e : itL (pre ++ [y]) = itL pre ++ itc y := by simp [itL]
  unfold qgC
  rw [hl, e]
  exact CutH.of (A := H) (L := [imB (pre.length + 1) (itL pre ++ itq y nl0 nl0)]) (K := k) (L1 := [imB (pre.length + 1) (itL pre ++ itc y)]) h ⟨rfl, rfl, FzC.append (FzC.refl (itL_sc _ _)) (by
    rw [← itq_c, hU, hs]
    unfold itq
    exact ⟨.id (.int _ _), FzC.append (FzC.refl (sqc_scoped _ _)) ⟨.id (.bool _), .id (.bool _), .id (.int _ _), FzC.append (FzC.refl (pic_scV _ _)) ⟨Fz.sliceC (xs := []) (ys := []) trivial (fun h => by cases h), Fz.sliceC (xs := []) (ys := []) trivial (fun h => by cases h), .id (.int _ _), trivial⟩⟩⟩), trivial⟩
theorem qg_dropO {H : Heap} {pre : List It} {x : It} {C : List PV} (k : Heap) (hC : ∀ n X, FzC n X C (x.U.flatMap usr1)) (h : HSc H) : CutH (H ++ [imB (pre.length + 1) (itL pre ++ itq x (mU2 H.length x.U.length) (mS2 H.length x.us.length)), ucB x.U.length C, scB x.us] ++ k) (qgO H pre x) := by
  unfold qgO
  exact CutH.of (A := H) (L := [imB (pre.length + 1) (itL pre ++ itq x (mU2 H.length x.U.length) (mS2 H.length x.us.length)), ucB x.U.length C, scB x.us]) (K := k) (L1 := [imB (pre.length + 1) (itL pre ++ itq x (mU2 H.length x.U.length) (mS2 H.length x.us.length)), ucB x.U.length (x.U.flatMap usr1), scB x.us]) h ⟨rfl, rfl, FzC.refl (itP_sc _ _ _ _ _ (.msl (by simp)) (.msl (by simp))), rfl, rfl, hC _ _, rfl, rfl, FzC.refl (scB_sc _ _), trivial⟩

theorem qgH_len (H : Heap) (s : PSt) : H.length + 1 ≤ (qgH H s).length := by
  unfold qgH; cases s.cur <;> simp [qgC, qgO]
theorem qg_dropH {H : Heap} {s : PSt} (k : Heap) (h : HSc H) : CutH (qgH H s ++ k) (qgH H s) := by
  unfold qgH
  cases s.cur with
  | none => exact qg_dropC k h
  | some x => exact qg_dropO k (usr_fz x.U) h

/-! ### what a unit makes -/
theorem bgT_k {t : Int} {q : List UInt8} (h : bgT t = false) : (bgn t q).1.k = 0 := by
  unfold bgT at h
  simp only [Bool.or_eq_false_iff, beq_eq_false_iff_ne, ne_eq] at h
  unfold bgn
  rw [if_neg h.1, if_neg h.2.1, if_neg h.2.2.1, if_neg h.2.2.2]; rfl
theorem bgT_t {t : Int} {q : List UInt8} (h : bgT t = true) : ¬ t = 178 ∧ ¬ (1 ≤ t ∧ t < 5) ∧ ¬ (bgn t q).1.k = 0 := by
  unfold bgT at h
  simp only [Bool.or_eq_true, beq_iff_eq] at h
  refine ⟨by omega, by omega, ?_⟩
  unfold bgn
  rcases h with h | h | h | h
  · rw [if_pos h]; simp [itN]
  · rw [if_neg (by omega), if_pos h]; simp [itN]
  · rw [if_neg (by omega), if_neg (by omega), if_pos h]; simp [itN]
  · rw [if_neg (by omega), if_neg (by omega), if_neg (by omega), if_pos h]; simp [itN]
theorem acc_rej {s : PSt} {t : Int} {q : List UInt8} (h : bgT t = false) (hb : s.cur.isSome = true → belT t q = false) : accP s t q = (s, false) := by
  unfold accP
  unfold belT at hb
  split
  · cases hc : s.cur with
    | none => rfl
    | some x =>
      rename_i h1
      rw [hc, if_pos h1] at hb
      dsimp only
      rw [hb rfl]; rfl
  · split
    · cases hc : s.cur with
      | none => rfl
      | some x =>
        rename_i h1 h2
        rw [hc, if_neg h1, decide_eq_true h2.1, decide_eq_true h2.2] at hb
        cases hb rfl
    · rw [if_pos (bgT_k h)]

set_option maxHeartbeats 16000000 in
set_option maxRecDepth 100000 in
theorem parse_ref (b : List UInt8) (full : Bool) (H : Heap) (hl : b.length ≤ 400000) (hu : ∀ x, (unR x).1.length ≤ x.length) : CallOk Tryz.prog 5 [.slice (bs b) b.length full] H (rvPP (parP b)) H := by
  have so := fun K => split_ref b full K hl
  have hfb := spl_b b hu
  have hsl := spl_len b
  obtain ⟨hl1, hl2⟩ := prs_len (spl b).1
  unfold parP badP
  refine CallOk.body (F0 := [(0, .slice (bs b) b.length full)]) Tryz.func5 rfl Tryz.ntmps5 Tryz.results5 rfl (by kernel_rfl) rfl ?_
  (repeat refine PW.seq ?_); refine PW.rg rfl fun K hK => ?_; simp (maxSteps := 3000000) (disch := omega) only [go_sem, ↓reduceIte, reduceCtorEq, pappend, plen]; refine hK _ _ ?_; clear hK K
  have h1 : ¬ 1048576 < b.length := by omega
  rw [if_neg h1]
  have d1 : decide (1048576 < (b.length : Int)) = false := decide_eq_false (by omega)
  (repeat refine PW.seq ?_); refine PW.rg rfl fun K hK => ?_; simp (maxSteps := 3000000) (disch := omega) only [go_sem, ↓reduceIte, reduceCtorEq, pappend, plen, length_bs, d1]; refine hK _ _ ?_; clear hK K
  (repeat refine PW.seq ?_); refine PW.cond (t := _) rfl (fun h => ?_) (fun h => ?_)
  · cases h
  refine PW.skip ?_
  (repeat refine PW.seq ?_); refine PW.rg rfl fun K hK => ?_; simp (maxSteps := 3000000) (disch := omega) only [go_sem, ↓reduceIte, reduceCtorEq, pappend, plen]; refine VCx.call (so _) rfl ?_; simp (maxSteps := 3000000) (disch := omega) only [go_sem, ↓reduceIte, reduceCtorEq, pappend, plen]; refine hK _ _ ?_; clear hK K
  clear so
  generalize spl b = SP at *
  obtain ⟨us, d0⟩ := SP
  dsimp only at *
  (repeat refine PW.seq ?_); refine PW.rg rfl fun K hK => ?_; simp (maxSteps := 3000000) (disch := omega) only [go_sem, ↓reduceIte, reduceCtorEq, pappend, plen]; refine hK _ _ ?_; clear hK K
  (repeat refine PW.seq ?_); refine PW.rg rfl fun K hK => ?_; simp (maxSteps := 3000000) (disch := omega) only [go_sem, ↓reduceIte, reduceCtorEq, pappend, plen]; refine hK _ _ ?_; clear hK K
  (repeat refine PW.seq ?_); refine PW.rg rfl fun K hK => ?_; simp (maxSteps := 3000000) (disch := omega) only [go_sem, ↓reduceIte, reduceCtorEq, pappend, plen]; refine hK _ _ ?_; clear hK K
  refine PW.view (Vs.ghost 7 61 148 rfl) ?_
  refine PW.at [5, 6, 7, 8, 9, 10] (?_ : PW _ _ _ (qgF H d0 us 0 false 0 0) (qgC H []) _) rfl rfl
  (repeat refine PW.seq ?_); refine PW.block (PW.loop ?_)
  have hbi : ∀ (f : Fnd), SqOk (bgn f.t f.p).1.s ∧ (bgn f.t f.p).1.pad = 0 ∧ (bgn f.t f.p).1.U = [] ∧ (bgn f.t f.p).1.us = [] := fun f => bgn_ok
  have hI : ∀ j, j ≤ us.length → PInv (prsP (us.take j)).1 j := by
    intro j
    induction j with
    | zero => intro _; exact ps0_inv
    | succ j ih =>
      intro hj
      rw [prs_take (by omega)]
      have hm := hfb _ (List.getElem_mem (show j < us.length by omega))
      exact pinv_step (ih (by omega)) (hbi _) ⟨hm.1, by omega⟩
  suffices hloop : ∀ j, j ≤ us.length → PL Tryz.prog _ _ (qgF H ((prsP (us.take j)).2.foldl insD d0) us (prsP (us.take j)).1.its.length (prsP (us.take j)).1.cur.isSome (prsP (us.take j)).1.np j) (qgH H (prsP (us.take j)).1) _ by
    have := hloop 0 (by omega)
    rw [List.take_zero, show prsP [] = (ps0, []) from rfl] at this
    exact PL.at [5, 6, 7, 8, 9, 10] this rfl rfl
  refine cnt us.length (fun j hj ih => ?_) ?_
  rotate_left
  · refine PL.round ?_; (repeat refine PW.seq ?_); refine PW.rg rfl fun K hK => ?_; simp (maxSteps := 3000000) (disch := omega) only [go_sem, ↓reduceIte, reduceCtorEq, pappend, plen, qgF, lt_f us.length]; refine hK _ _ ?_; clear hK K; (repeat refine PW.seq ?_); refine PW.cond (t := _) rfl (fun h => ?_) (fun h => ?_)
    · cases h
    refine PW.exit ?_
    rw [List.take_length]
    have hIe := hI us.length (Nat.le_refl _)
    rw [List.take_length] at hIe
    clear hI
    generalize prsP us = X at *
    obtain ⟨s, r⟩ := X
    dsimp only at *
    suffices hfin : ∀ (its : List It) (op : Bool), its = s.its → PW Tryz.prog _ _ (qgF H (r.foldl insD d0) us its.length op s.np us.length) (qgC H its) _ by
      unfold qgH
      cases hc : s.cur with
      | none =>
        have e : s.its = s.pre := by unfold PSt.its; rw [hc]; simp
        exact PW.at [5, 6, 7, 8, 9, 10] (hfin s.its false rfl) rfl (by rw [e])
      | some x =>
        have e : s.its = s.pre ++ [x] := by unfold PSt.its; rw [hc]; rfl
        refine PW.at [5, 6, 7, 8, 9, 10] (?_ : PW _ _ _ (qgF H (r.foldl insD d0) us s.its.length true s.np us.length) (qgO H s.pre x) _) rfl rfl
        exact PW.view (Vs.cut (F1 := qgF H (r.foldl insD d0) us s.its.length true s.np us.length) (H1 := qgC H s.its) (by rw [qgC_len]; exact Nat.le_add_right _ _) (fun hs => by rw [e]; exact qg_close hs) (qgF_z (by rw [qgC_len]; omega))) (hfin s.its true rfl)
    intro its op hit
    subst hit
    by_cases h2 : 256 < s.np
    · have d2 : decide (256 < (s.np : Int)) = true := decide_eq_true (by omega)
      rw [if_pos h2]
      (repeat refine PW.seq ?_); refine PW.rg rfl fun K hK => ?_; simp (maxSteps := 3000000) (disch := omega) only [go_sem, ↓reduceIte, reduceCtorEq, pappend, plen, qgF, d2]; refine hK _ _ ?_; clear hK K
      (repeat refine PW.seq ?_); refine PW.cond (t := _) rfl (fun h => ?_) (fun h => ?_)
      rotate_left
      · cases h
      (repeat refine PW.seq ?_); refine PW.rg rfl fun K hK => ?_; simp (maxSteps := 3000000) (disch := omega) only [go_sem, ↓reduceIte, reduceCtorEq, pappend, plen]; refine hK _ _ ?_; clear hK K
      refine PW.ret ⟨.tup [.slice [] 0 true, .slice [] 0 true, .int .i64 5], by simp (maxSteps := 3000000) (disch := omega) only [go_sem, ↓reduceIte, reduceCtorEq, pappend, plen, presults, presult, List.mapM_cons, List.mapM_nil, Option.pure_def, Option.bind_eq_bind, Option.bind_some, Array.toList], ?_⟩
      exact Fin.base (Fz.tupC ⟨Fz.sliceC (xs := []) (ys := []) trivial (fun h => by cases h), Fz.sliceC (xs := []) (ys := []) trivial (fun h => by cases h), .id (.int _ _), trivial⟩)
    have d2 : decide (256 < (s.np : Int)) = false := decide_eq_false (by omega)
    rw [if_neg h2]
    (repeat refine PW.seq ?_); refine PW.rg rfl fun K hK => ?_; simp (maxSteps := 3000000) (disch := omega) only [go_sem, ↓reduceIte, reduceCtorEq, pappend, plen, qgF, d2]; refine hK _ _ ?_; clear hK K
    (repeat refine PW.seq ?_); refine PW.cond (t := _) rfl (fun h => ?_) (fun h => ?_)
    · cases h
    refine PW.skip ?_
    (repeat refine PW.seq ?_); refine PW.rg rfl fun K hK => ?_; simp (maxSteps := 3000000) (disch := omega) only [go_sem, ↓reduceIte, reduceCtorEq, pappend, plen]; refine hK _ _ ?_; clear hK K
    refine PW.ret ⟨.tup [.msl H.length (s.its.length * 148) 0 s.its.length 148 true, .slice (dc (r.foldl insD d0)) (r.foldl insD d0).length false, .int .i64 0], by simp (maxSteps := 3000000) (disch := omega) only [go_sem, ↓reduceIte, reduceCtorEq, pappend, plen, presults, presult, List.mapM_cons, List.mapM_nil, Option.pure_def, Option.bind_eq_bind, Option.bind_some, Array.toList], ?_⟩
    unfold rvPP
    dsimp only
    refine Fin.base (Fz.tupC ⟨Fz.mslC (e := 61) (xs := itL s.its) (by omega) (apn H _ 0) (itL_len _ fun y hy => (hIe.its y hy).s) (FzC.refl (itL_sc _ _)), .id (sl_scoped (dc_sc _ _)), .id (.int _ _), trivial⟩)
  have hf := hfb _ (List.getElem_mem hj)
  have hinv := hI j (by omega)
  have fat : List.take 2 (List.drop (j * 5) (fc us)) = [.int .i64 us[j].t, .slice (bs us[j].p) us[j].p.length false] := by
    have : List.take 5 (List.drop (j * 5) (fc us)) = fd us[j] := flat_at fd 5 us j hj fun _ _ => rfl
    have e := congrArg (List.take 2) this
    rw [List.take_take] at e
    exact e
  have f2 : (fc us)[j * 5 + 2]? = some (.int .i64 (us[j].fr : Int)) := flat_get fd 5 us j 2 hj (fun _ _ => rfl) (by omega)
  have f3 : (fc us)[j * 5 + 3]? = some (.int .i64 (us[j].to : Int)) := flat_get fd 5 us j 3 hj (fun _ _ => rfl) (by omega)
  have f4 : (fc us)[j * 5 + 4]? = some (.int .i64 (us[j].nx : Int)) := flat_get fd 5 us j 4 hj (fun _ _ => rfl) (by omega)
  have lf := fc_lnC us
  have ct := lt_t hj
  rw [prs_take hj] at ih
  have hrl : (prsP (us.take j)).2.length ≤ j := by have := (prs_len (us.take j)).2; rw [List.length_take] at this; omega
  generalize prsP (us.take j) = X at *
  obtain ⟨s, r⟩ := X
  dsimp only at hrl hinv ⊢
  have hDl : (r.foldl insD d0).length ≤ 8000000 := by have := (insF_perm r d0).length_eq; have := hsl.2; rw [List.length_append] at *; omega
  have eD : ∀ d : Nat × Nat, (r ++ [d]).foldl insD d0 = insD (r.foldl insD d0) d := fun d => by rw [List.foldl_append]; rfl
  clear hI hfb hl1 hl2
  have hbF := hbi us[j]
  generalize us[j] = f at *
  have hItC : ∀ y ∈ s.its, SqOk y.s := fun y hy => (hinv.its y hy).s
  have hn := hinv.n
  have hnp := hinv.np
  have bg := fun K => begins_ref f.t K
  have bl := fun K => belongs_ref f.t f.p false K (by omega)
  generalize hD : r.foldl insD d0 = D at *
  have ins := fun K => insert_ref D (f.fr, f.to) false K hDl
  unfold dd at ins
  dsimp only at ins
  have hD1 : (insD D (f.fr, f.to)).length = D.length + 1 := by have := (ins_perm D (f.fr, f.to)).length_eq; simpa using this
  cases hb : bgT f.t with
  | false =>
    rw [hb] at bg
    cases hop : s.cur.isSome && belT f.t f.p with
    | false =>
      have hr : accP s f.t f.p = (s, false) := acc_rej hb fun h => by rw [h, Bool.true_and] at hop; exact hop
      rw [stp_rej hr] at ih
      dsimp only at ih
      rw [eD] at ih
      have hq1 := qgH_len H s
      have hq2 := fun (k : Heap) hs => qg_dropH (H := H) (s := s) k hs
      generalize qgH H s = A at *
      generalize s.cur.isSome = op at *
      refine PL.round ?_; (repeat refine PW.seq ?_); refine PW.rg rfl fun K hK => ?_; simp (maxSteps := 3000000) (disch := omega) only [go_sem, ↓reduceIte, reduceCtorEq, pappend, plen, qgF, ct]; refine hK _ _ ?_; clear hK K; (repeat refine PW.seq ?_); refine PW.cond (t := _) rfl (fun h => ?_) (fun h => ?_)
      rotate_left
      · cases h
      refine PW.skip ?_; (repeat refine PW.seq ?_); refine PW.block ?_
      (repeat refine PW.seq ?_); refine PW.rg rfl fun K hK => ?_; simp (maxSteps := 3000000) (disch := omega) only [go_sem, ↓reduceIte, reduceCtorEq, pappend, plen, lf, fat]; refine hK _ _ ?_; clear hK K
      (repeat refine PW.seq ?_); refine PW.rg rfl fun K hK => ?_; simp (maxSteps := 3000000) (disch := omega) only [go_sem, ↓reduceIte, reduceCtorEq, pappend, plen]; refine hK _ _ ?_; clear hK K
      (repeat refine PW.seq ?_); refine PW.rg rfl fun K hK => ?_; simp (maxSteps := 3000000) (disch := omega) only [go_sem, ↓reduceIte, reduceCtorEq, pappend, plen]; refine VCx.call (bg _) rfl ?_; simp (maxSteps := 3000000) (disch := omega) only [go_sem, ↓reduceIte, reduceCtorEq, pappend, plen]; refine hK _ _ ?_; clear hK K
      (repeat refine PW.seq ?_); refine PW.cond (t := _) rfl (fun h => ?_) (fun h => ?_)
      · cases h
      suffices hm : PW Tryz.prog _ _ (qgF H D us s.its.length op s.np j ++ [(11, .ptr A.length 0 0), (12, .bool false), (62, .bool false)]) (A ++ [⟨41, 0, [.int .i64 f.t, .slice (bs f.p) f.p.length false]⟩]) _ by
        cases op with
        | false =>
          (repeat refine PW.seq ?_); refine PW.rg rfl fun K hK => ?_; simp (maxSteps := 3000000) (disch := omega) only [go_sem, ↓reduceIte, reduceCtorEq, pappend, plen]; refine hK _ _ ?_; clear hK K
          exact PW.at [5, 6, 7, 8, 9, 10, 11, 12, 62] hm rfl rfl
        | true =>
          rw [Bool.true_and] at hop
          rw [hop] at bl
          (repeat refine PW.seq ?_); refine PW.rg rfl fun K hK => ?_; simp (maxSteps := 3000000) (disch := omega) only [go_sem, ↓reduceIte, reduceCtorEq, pappend, plen]; refine VCx.call (bl _) rfl ?_; simp (maxSteps := 3000000) (disch := omega) only [go_sem, ↓reduceIte, reduceCtorEq, pappend, plen]; refine hK _ _ ?_; clear hK K
          exact PW.at [5, 6, 7, 8, 9, 10, 11, 12, 62] hm rfl rfl
      unfold qgF
      (repeat refine PW.seq ?_); refine PW.cond (t := _) rfl (fun h => ?_) (fun h => ?_)
      · cases h
      refine PW.skip ?_
      (repeat refine PW.seq ?_); refine PW.rg rfl fun K hK => ?_; simp (maxSteps := 3000000) (disch := omega) only [go_sem, ↓reduceIte, reduceCtorEq, pappend, plen]; refine hK _ _ ?_; clear hK K
      (repeat refine PW.seq ?_); refine PW.cond (t := _) rfl (fun h => ?_) (fun h => ?_)
      · cases h
      (repeat refine PW.seq ?_); refine PW.drawg mix (by kernel_rfl) fun K hK => ?_; simp (maxSteps := 3000000) (disch := omega) only [go_sem, ↓reduceIte, reduceCtorEq, pappend, plen, lf, f2, f3]
      refine VCz.call (fun _ => ins _) rfl ?_
      simp (maxSteps := 3000000) (disch := omega) only [go_sem, ↓reduceIte, reduceCtorEq, pappend, plen]
      refine hK _ _ ?_; clear hK K
      (repeat refine PW.seq ?_); refine PW.rg rfl fun K hK => ?_; simp (maxSteps := 3000000) (disch := omega) only [go_sem, ↓reduceIte, reduceCtorEq, pappend, plen]; refine hK _ _ ?_; clear hK K
      refine PL.at [5, 6, 7, 8, 9, 10] (?_ : PL _ _ _ (qgF H (insD D (f.fr, f.to)) us s.its.length op s.np (j + 1)) (A ++ [⟨41, 0, [.int .i64 f.t, .slice (bs f.p) f.p.length false]⟩]) _) (by unfold qgF; rw [hD1]; rfl) rfl
      exact PL.view (Vs.cut (F1 := qgF H (insD D (f.fr, f.to)) us s.its.length op s.np (j + 1)) (H1 := A) (show H.length ≤ A.length by omega) (fun hs => hq2 _ hs) (qgF_z (by omega))) ih
    | true =>
      cases hc : s.cur with
      | none => rw [hc] at hop; cases hop
      | some x =>
      rw [hc, Option.isSome_some, Bool.true_and] at hop
      rw [hop] at bl
      have hit : s.its = s.pre ++ [x] := by unfold PSt.its; rw [hc]; rfl
      have hitl : s.its.length = s.pre.length + 1 := by rw [hit]; simp
      have e1 : qgH H s = qgO H s.pre x := by unfold qgH; rw [hc]
      have hxI := hinv.its x (by rw [hit]; simp)
      have hpr : ∀ y ∈ s.pre, SqOk y.s := fun y hy => hItC y (by rw [hit]; simp [hy])
      have hpn : s.pre.length + 1 ≤ j := by omega
      rw [e1, hitl]
      have eN : ((s.pre.length + 1 : Nat) : Int) - 1 = (s.pre.length : Int) := by omega
      have F := iqF s.pre x (mU2 H.length x.U.length) (mS2 H.length x.us.length) hpr hxI.s
      have hxp := hxI.pad
      have hxu := hxI.U
      have hxs := hxI.us
      by_cases ht : f.t = 178
      · have hu' : usB f.p = true := by unfold belT at hop; rw [if_pos ht] at hop; exact hop
        rw [stp_user hc ht hu'] at ih
        dsimp only at ih
        rw [hD] at ih
        obtain ⟨h1, h2, h3⟩ := (usB_iff f.p).1 hu'
        have e5 : (f.p.length : Int) - 1 = ((f.p.length - 1 : Nat) : Int) := by omega
        have eT : List.take (f.p.length - 1) (bs f.p) = bs (f.p.take (f.p.length - 1)) := by simp [bs]
        have eL : (f.p.take (f.p.length - 1)).length = f.p.length - 1 := by simp
        have ul := usr_l x.U
        have fu : (itL s.pre ++ itq x (.msl (H.length + 1) x.U.length 0 x.U.length 1 true) (mS2 H.length x.us.length))[s.pre.length * 148 + 139 + 6]? = some (.msl (H.length + 1) x.U.length 0 x.U.length 1 true) := F.u
        have fs : ∀ v, (itL s.pre ++ itq x (.msl (H.length + 1) x.U.length 0 x.U.length 1 true) (mS2 H.length x.us.length)).set (s.pre.length * 148 + 139 + 6) v = itL s.pre ++ itq x v (mS2 H.length x.us.length) := F.su
        have fl : (itL s.pre ++ itq x (.msl (H.length + 1) x.U.length 0 x.U.length 1 true) (mS2 H.length x.us.length)).length = (s.pre.length + 1) * 148 := F.ln
        have F2 := iqF s.pre { x with U := x.U ++ [f.p.take (f.p.length - 1)] } (mU2 H.length (x.U.length + 1)) (mS2 H.length x.us.length) hpr hxI.s
        refine PL.round ?_; (repeat refine PW.seq ?_); refine PW.rg rfl fun K hK => ?_; simp (maxSteps := 3000000) (disch := omega) only [go_sem, ↓reduceIte, reduceCtorEq, pappend, plen, qgF, qgO, ct]; refine hK _ _ ?_; clear hK K; (repeat refine PW.seq ?_); refine PW.cond (t := _) rfl (fun h => ?_) (fun h => ?_)
        rotate_left
        · cases h
        refine PW.skip ?_; (repeat refine PW.seq ?_); refine PW.block ?_
        (repeat refine PW.seq ?_); refine PW.rg rfl fun K hK => ?_; simp (maxSteps := 3000000) (disch := omega) only [go_sem, ↓reduceIte, reduceCtorEq, pappend, plen, lf, fat]; refine hK _ _ ?_; clear hK K
        (repeat refine PW.seq ?_); refine PW.rg rfl fun K hK => ?_; simp (maxSteps := 3000000) (disch := omega) only [go_sem, ↓reduceIte, reduceCtorEq, pappend, plen]; refine hK _ _ ?_; clear hK K
        (repeat refine PW.seq ?_); refine PW.rg rfl fun K hK => ?_; simp (maxSteps := 3000000) (disch := omega) only [go_sem, ↓reduceIte, reduceCtorEq, pappend, plen]; refine VCx.call (bg _) rfl ?_; simp (maxSteps := 3000000) (disch := omega) only [go_sem, ↓reduceIte, reduceCtorEq, pappend, plen]; refine hK _ _ ?_; clear hK K
        (repeat refine PW.seq ?_); refine PW.cond (t := _) rfl (fun h => ?_) (fun h => ?_)
        · cases h
        (repeat refine PW.seq ?_); refine PW.rg rfl fun K hK => ?_; simp (maxSteps := 3000000) (disch := omega) only [go_sem, ↓reduceIte, reduceCtorEq, pappend, plen]; refine VCx.call (bl _) rfl ?_; simp (maxSteps := 3000000) (disch := omega) only [go_sem, ↓reduceIte, reduceCtorEq, pappend, plen]; refine hK _ _ ?_; clear hK K
        (repeat refine PW.seq ?_); refine PW.cond (t := _) rfl (fun h => ?_) (fun h => ?_)
        rotate_left
        · cases h
        (repeat refine PW.seq ?_); refine PW.rg rfl fun K hK => ?_; simp (maxSteps := 3000000) (disch := omega) only [go_sem, ↓reduceIte, reduceCtorEq, pappend, plen]; refine hK _ _ ?_; clear hK K
        (repeat refine PW.seq ?_); refine PW.rg rfl fun K hK => ?_; simp (maxSteps := 3000000) (disch := omega) only [go_sem, ↓reduceIte, reduceCtorEq, pappend, plen, imB, eN, F.ln]; refine hK _ _ ?_; clear hK K
        have d178 : (f.t == 178) = true := by simp [ht]
        (repeat refine PW.seq ?_); refine PW.rg rfl fun K hK => ?_; simp (maxSteps := 3000000) (disch := omega) only [go_sem, ↓reduceIte, reduceCtorEq, pappend, plen, d178]; refine hK _ _ ?_; clear hK K
        (repeat refine PW.seq ?_); refine PW.cond (t := _) rfl (fun h => ?_) (fun h => ?_)
        rotate_left
        · cases h
        (repeat refine PW.seq ?_); refine PW.drawi [H.length, H.length + 1] [(72, [0]), (73, [0]), (74, [0]), (75, [0]), (86, [0]), (87, [0]), (76, [1]), (85, [1])] [] [] mix (by kernel_rfl) (by simp <;> omega) fun K hK => ?_
        simp (maxSteps := 3000000) (disch := omega) only [go_sem, ↓reduceIte, reduceCtorEq, pappend, plen, imB, ucB, mU2, fl, fu, fs, ul, length_bs, eT, e5, Option.toArray_none, Option.toArray_some, arith]
        refine hK _ _ ?_; clear hK K
        (repeat refine PW.seq ?_); refine PW.rg rfl fun K hK => ?_; simp (maxSteps := 3000000) (disch := omega) only [go_sem, ↓reduceIte, reduceCtorEq, pappend, plen]; refine hK _ _ ?_; clear hK K
        (repeat refine PW.seq ?_); refine PW.cond (t := _) rfl (fun h => ?_) (fun h => ?_)
        rotate_left
        · cases h
        have eC : x.U.flatMap usr1 ++ [PV.slice (bs (f.p.take (f.p.length - 1))) (f.p.length - 1) false] = (x.U ++ [f.p.take (f.p.length - 1)]).flatMap usr1 := by
          rw [List.flatMap_append, List.flatMap_cons, List.flatMap_nil, List.append_nil]
          unfold usr1
          rw [eL]
        have eUl : ((x.U ++ [f.p.take (f.p.length - 1)]).flatMap usr1).length = x.U.length + 1 := by rw [usr_l]; simp
        refine PW.at [5, 6, 7, 8, 9, 10, 11, 12] (?_ : PW _ _ _ (qgF H D us (s.pre.length + 1) true s.np j ++ [(11, .ptr (H.length + 3) 0 0), (12, .bool true)]) (H ++ [imB (s.pre.length + 1) (itL s.pre ++ itq { x with U := x.U ++ [f.p.take (f.p.length - 1)] } (mU2 H.length (x.U.length + 1)) (mS2 H.length x.us.length)), ucB (x.U.length + 1) ((x.U ++ [f.p.take (f.p.length - 1)]).flatMap usr1), scB x.us, ⟨41, 0, [.int .i64 f.t, .slice (bs f.p) f.p.length false]⟩]) _) rfl (by rw [Nat.sub_zero, eT, eC, eUl]; rfl)
        unfold qgF
        (repeat refine PW.seq ?_); refine PW.drawi [H.length] [(99, [0]), (100, [0]), (103, [0]), (104, [0]), (118, [0]), (119, [0])] [] [] mix (by kernel_rfl) (by simp <;> omega) fun K hK => ?_
        simp (maxSteps := 3000000) (disch := omega) only [go_sem, ↓reduceIte, reduceCtorEq, pappend, plen, imB, eN, F2.ln, F2.p, F2.sp, lf, f3, f4, arith]
        refine hK _ _ ?_; clear hK K
        (repeat refine PW.seq ?_); refine PW.rg rfl fun K hK => ?_; simp (maxSteps := 3000000) (disch := omega) only [go_sem, ↓reduceIte, reduceCtorEq, pappend, plen]; refine hK _ _ ?_; clear hK K
        have hd := fun hs => qg_dropO (H := H) (pre := s.pre) (x := { x with U := x.U ++ [f.p.take (f.p.length - 1)], pad := x.pad + ((f.nx : Int) - f.to) }) [⟨41, 0, [.int .i64 f.t, .slice (bs f.p) f.p.length false]⟩] (usr_fz (x.U ++ [f.p.take (f.p.length - 1)])) hs
        have hl1 : (x.U ++ [f.p.take (f.p.length - 1)]).length = x.U.length + 1 := by simp
        rw [hl1] at hd
        refine PL.at [5, 6, 7, 8, 9, 10] (?_ : PL _ _ _ (qgF H D us (s.pre.length + 1) true s.np (j + 1)) (H ++ [imB (s.pre.length + 1) (itL s.pre ++ itq { x with U := x.U ++ [f.p.take (f.p.length - 1)], pad := x.pad + ((f.nx : Int) - f.to) } (mU2 H.length (x.U.length + 1)) (mS2 H.length x.us.length)), ucB (x.U.length + 1) ((x.U ++ [f.p.take (f.p.length - 1)]).flatMap usr1), scB x.us] ++ [⟨41, 0, [.int .i64 f.t, .slice (bs f.p) f.p.length false]⟩]) _) rfl (by rw [List.append_assoc]; rfl)
        refine PL.view (Vs.cut (F1 := qgF H D us (s.pre.length + 1) true s.np (j + 1)) (H1 := qgO H s.pre { x with U := x.U ++ [f.p.take (f.p.length - 1)], pad := x.pad + ((f.nx : Int) - f.to) }) (by rw [qgO_len]; exact Nat.le_add_right _ _) (fun hs => ?_) (qgF_z (by rw [qgO_len]; omega))) ?_
        · have := hd hs
          exact this
        · have hi2 : ∀ y : It, (PSt.mk s.pre (some y) s.np).its.length = s.pre.length + 1 := fun y => by simp [PSt.its]
          rw [hi2] at ih
          exact ih
      · have hsl1 : 1 ≤ f.t ∧ f.t < 5 := by
          unfold belT at hop
          rw [if_neg ht] at hop
          simpa using hop
        rw [stp_slice hc ht hsl1] at ih
        dsimp only at ih
        rw [hD] at ih
        have ul := uq_len x.us
        have d178 : (f.t == 178) = false := by simp [ht]
        have fu : (itL s.pre ++ itq x (mU2 H.length x.U.length) (.msl (H.length + 2) (x.us.length * 2) 0 x.us.length 2 true))[s.pre.length * 148 + 139 + 7]? = some (.msl (H.length + 2) (x.us.length * 2) 0 x.us.length 2 true) := F.s
        have fs : ∀ v, (itL s.pre ++ itq x (mU2 H.length x.U.length) (.msl (H.length + 2) (x.us.length * 2) 0 x.us.length 2 true)).set (s.pre.length * 148 + 139 + 7) v = itL s.pre ++ itq x (mU2 H.length x.U.length) v := F.ss
        have fl : (itL s.pre ++ itq x (mU2 H.length x.U.length) (.msl (H.length + 2) (x.us.length * 2) 0 x.us.length 2 true)).length = (s.pre.length + 1) * 148 := F.ln
        have F2 := iqF s.pre { x with us := x.us ++ [(f.t, f.p)] } (mU2 H.length x.U.length) (mS2 H.length (x.us.length + 1)) hpr hxI.s
        refine PL.round ?_; (repeat refine PW.seq ?_); refine PW.rg rfl fun K hK => ?_; simp (maxSteps := 3000000) (disch := omega) only [go_sem, ↓reduceIte, reduceCtorEq, pappend, plen, qgF, qgO, ct]; refine hK _ _ ?_; clear hK K; (repeat refine PW.seq ?_); refine PW.cond (t := _) rfl (fun h => ?_) (fun h => ?_)
        rotate_left
        · cases h
        refine PW.skip ?_; (repeat refine PW.seq ?_); refine PW.block ?_
        (repeat refine PW.seq ?_); refine PW.rg rfl fun K hK => ?_; simp (maxSteps := 3000000) (disch := omega) only [go_sem, ↓reduceIte, reduceCtorEq, pappend, plen, lf, fat]; refine hK _ _ ?_; clear hK K
        (repeat refine PW.seq ?_); refine PW.rg rfl fun K hK => ?_; simp (maxSteps := 3000000) (disch := omega) only [go_sem, ↓reduceIte, reduceCtorEq, pappend, plen]; refine hK _ _ ?_; clear hK K
        (repeat refine PW.seq ?_); refine PW.rg rfl fun K hK => ?_; simp (maxSteps := 3000000) (disch := omega) only [go_sem, ↓reduceIte, reduceCtorEq, pappend, plen]; refine VCx.call (bg _) rfl ?_; simp (maxSteps := 3000000) (disch := omega) only [go_sem, ↓reduceIte, reduceCtorEq, pappend, plen]; refine hK _ _ ?_; clear hK K
        (repeat refine PW.seq ?_); refine PW.cond (t := _) rfl (fun h => ?_) (fun h => ?_)
        · cases h
        (repeat refine PW.seq ?_); refine PW.rg rfl fun K hK => ?_; simp (maxSteps := 3000000) (disch := omega) only [go_sem, ↓reduceIte, reduceCtorEq, pappend, plen]; refine VCx.call (bl _) rfl ?_; simp (maxSteps := 3000000) (disch := omega) only [go_sem, ↓reduceIte, reduceCtorEq, pappend, plen]; refine hK _ _ ?_; clear hK K
        (repeat refine PW.seq ?_); refine PW.cond (t := _) rfl (fun h => ?_) (fun h => ?_)
        rotate_left
        · cases h
        (repeat refine PW.seq ?_); refine PW.rg rfl fun K hK => ?_; simp (maxSteps := 3000000) (disch := omega) only [go_sem, ↓reduceIte, reduceCtorEq, pappend, plen]; refine hK _ _ ?_; clear hK K
        (repeat refine PW.seq ?_); refine PW.rg rfl fun K hK => ?_; simp (maxSteps := 3000000) (disch := omega) only [go_sem, ↓reduceIte, reduceCtorEq, pappend, plen, imB, eN, F.ln]; refine hK _ _ ?_; clear hK K
        (repeat refine PW.seq ?_); refine PW.rg rfl fun K hK => ?_; simp (maxSteps := 3000000) (disch := omega) only [go_sem, ↓reduceIte, reduceCtorEq, pappend, plen, d178]; refine hK _ _ ?_; clear hK K
        (repeat refine PW.seq ?_); refine PW.cond (t := _) rfl (fun h => ?_) (fun h => ?_)
        · cases h
        (repeat refine PW.seq ?_); refine PW.drawi [H.length, H.length + 2] [(88, [0]), (89, [0]), (90, [0]), (91, [0]), (96, [0]), (97, [0]), (92, [1]), (95, [1])] [] [] mix (by kernel_rfl) (by simp <;> omega) fun K hK => ?_
        simp (maxSteps := 3000000) (disch := omega) only [go_sem, ↓reduceIte, reduceCtorEq, pappend, plen, imB, scB, mS2, fl, fu, fs, ul, length_bs, Option.toArray_none, Option.toArray_some, arith]
        refine hK _ _ ?_; clear hK K
        (repeat refine PW.seq ?_); refine PW.rg rfl fun K hK => ?_; simp (maxSteps := 3000000) (disch := omega) only [go_sem, ↓reduceIte, reduceCtorEq, pappend, plen]; refine hK _ _ ?_; clear hK K
        (repeat refine PW.seq ?_); refine PW.cond (t := _) rfl (fun h => ?_) (fun h => ?_)
        rotate_left
        · cases h
        have hus : uq x.us ++ [.int .i64 f.t, .slice (bs f.p) f.p.length false] = uq (x.us ++ [(f.t, f.p)]) := by simp [uq, uq1]
        have hul : (uq (x.us ++ [(f.t, f.p)])).length = (x.us.length + 1) * 2 := by rw [uq_len]; simp
        have hl1 : (x.us ++ [(f.t, f.p)]).length = x.us.length + 1 := by simp
        refine PW.at [5, 6, 7, 8, 9, 10, 11, 12] (?_ : PW _ _ _ (qgF H D us (s.pre.length + 1) true s.np j ++ [(11, .ptr (H.length + 3) 0 0), (12, .bool true)]) (H ++ [imB (s.pre.length + 1) (itL s.pre ++ itq { x with us := x.us ++ [(f.t, f.p)] } (mU2 H.length x.U.length) (mS2 H.length (x.us.length + 1))), ucB x.U.length (x.U.flatMap usr1), scB (x.us ++ [(f.t, f.p)]), ⟨41, 0, [.int .i64 f.t, .slice (bs f.p) f.p.length false]⟩]) _) rfl (by rw [hus, hul]; unfold scB; rw [hl1]; rfl)
        unfold qgF
        (repeat refine PW.seq ?_); refine PW.drawi [H.length] [(99, [0]), (100, [0]), (103, [0]), (104, [0]), (118, [0]), (119, [0])] [] [] mix (by kernel_rfl) (by simp <;> omega) fun K hK => ?_
        simp (maxSteps := 3000000) (disch := omega) only [go_sem, ↓reduceIte, reduceCtorEq, pappend, plen, imB, eN, F2.ln, F2.p, F2.sp, lf, f3, f4, arith]
        refine hK _ _ ?_; clear hK K
        (repeat refine PW.seq ?_); refine PW.rg rfl fun K hK => ?_; simp (maxSteps := 3000000) (disch := omega) only [go_sem, ↓reduceIte, reduceCtorEq, pappend, plen]; refine hK _ _ ?_; clear hK K
        have hd := fun hs => qg_dropO (H := H) (pre := s.pre) (x := { x with us := x.us ++ [(f.t, f.p)], pad := x.pad + ((f.nx : Int) - f.to) }) [⟨41, 0, [.int .i64 f.t, .slice (bs f.p) f.p.length false]⟩] (usr_fz x.U) hs
        rw [hl1] at hd
        refine PL.at [5, 6, 7, 8, 9, 10] (?_ : PL _ _ _ (qgF H D us (s.pre.length + 1) true s.np (j + 1)) (H ++ [imB (s.pre.length + 1) (itL s.pre ++ itq { x with us := x.us ++ [(f.t, f.p)], pad := x.pad + ((f.nx : Int) - f.to) } (mU2 H.length x.U.length) (mS2 H.length (x.us.length + 1))), ucB x.U.length (x.U.flatMap usr1), scB (x.us ++ [(f.t, f.p)])] ++ [⟨41, 0, [.int .i64 f.t, .slice (bs f.p) f.p.length false]⟩]) _) rfl (by rw [List.append_assoc]; rfl)
        refine PL.view (Vs.cut (F1 := qgF H D us (s.pre.length + 1) true s.np (j + 1)) (H1 := qgO H s.pre { x with us := x.us ++ [(f.t, f.p)], pad := x.pad + ((f.nx : Int) - f.to) }) (by rw [qgO_len]; exact Nat.le_add_right _ _) (fun hs => ?_) (qgF_z (by rw [qgO_len]; omega))) ?_
        · exact hd hs
        · have hi2 : ∀ y : It, (PSt.mk s.pre (some y) s.np).its.length = s.pre.length + 1 := fun y => by simp [PSt.its]
          rw [hi2] at ih
          exact ih
  | true =>
    rw [hb] at bg
    obtain ⟨ht, hsl1, hk0⟩ := bgT_t (q := f.p) hb
    rw [stp_bgn ht hsl1 hk0] at ih
    have io := fun K => item_ref f.t f.p K (by omega) hb
    suffices hB : ∀ (pre : List It) (op : Bool), s.its = pre → PL Tryz.prog _ _ (qgF H D us pre.length op s.np j) (qgC H pre) _ by
      cases hc : s.cur with
      | none =>
        have hit : s.its = s.pre := by unfold PSt.its; rw [hc]; simp
        have e1 : qgH H s = qgC H s.pre := by unfold qgH; rw [hc]
        rw [e1, hit]
        exact hB s.pre _ hit
      | some x =>
        have hit : s.its = s.pre ++ [x] := by unfold PSt.its; rw [hc]; rfl
        have e1 : qgH H s = qgO H s.pre x := by unfold qgH; rw [hc]
        rw [e1, hit]
        exact PL.view (Vs.cut (F1 := qgF H D us (s.pre ++ [x]).length true s.np j) (H1 := qgC H (s.pre ++ [x])) (by rw [qgC_len]; exact Nat.le_add_right _ _) (fun hs => qg_close hs) (qgF_z (by rw [qgC_len]; omega))) (hB (s.pre ++ [x]) true hit)
    intro pre op hit
    have hpr : ∀ y ∈ pre, SqOk y.s := fun y hy => hItC y (by rw [hit]; exact hy)
    have hpn : pre.length ≤ j := by rw [hit] at hn; exact hn
    rw [hit] at ih
    unfold bgnS at ih
    obtain ⟨hb1, hb2, hb3, hb4⟩ := hbF
    clear hbi bl hk0
    generalize (bgn f.t f.p).1 = y at *
    generalize (bgn f.t f.p).2 = e at *
    have hiN : (PSt.mk pre none s.np).its = pre := by simp [PSt.its]
    have yl : (itq y nl0 nl0).length = 148 := itq_len y _ _ hb1
    have yc : (itq y nl0 nl0).all PV.cell = true := itq_cell y _ _ rfl rfl
    have yt : List.take 148 (itq y nl0 nl0) = itq y nl0 nl0 := List.take_of_length_le (by omega)
    have yd : List.drop 148 (itq y nl0 nl0) = [] := List.drop_of_length_le (by omega)
    have y0 : (itq y nl0 nl0)[0]? = some (.int .i64 y.k) := rfl
    by_cases he : e = 0
    rotate_left
    · have de : (e == 0) = false := by simp [he]
      rw [de] at io
      rw [if_neg he] at ih
      dsimp only at ih
      rw [eD, hiN] at ih
      refine PL.round ?_; (repeat refine PW.seq ?_); refine PW.rg rfl fun K hK => ?_; simp (maxSteps := 3000000) (disch := omega) only [go_sem, ↓reduceIte, reduceCtorEq, pappend, plen, qgF, qgC, ct]; refine hK _ _ ?_; clear hK K; (repeat refine PW.seq ?_); refine PW.cond (t := _) rfl (fun h => ?_) (fun h => ?_)
      rotate_left
      · cases h
      refine PW.skip ?_; (repeat refine PW.seq ?_); refine PW.block ?_
      (repeat refine PW.seq ?_); refine PW.rg rfl fun K hK => ?_; simp (maxSteps := 3000000) (disch := omega) only [go_sem, ↓reduceIte, reduceCtorEq, pappend, plen, lf, fat]; refine hK _ _ ?_; clear hK K
      (repeat refine PW.seq ?_); refine PW.rg rfl fun K hK => ?_; simp (maxSteps := 3000000) (disch := omega) only [go_sem, ↓reduceIte, reduceCtorEq, pappend, plen]; refine hK _ _ ?_; clear hK K
      (repeat refine PW.seq ?_); refine PW.rg rfl fun K hK => ?_; simp (maxSteps := 3000000) (disch := omega) only [go_sem, ↓reduceIte, reduceCtorEq, pappend, plen]; refine VCx.call (bg _) rfl ?_; simp (maxSteps := 3000000) (disch := omega) only [go_sem, ↓reduceIte, reduceCtorEq, pappend, plen]; refine hK _ _ ?_; clear hK K
      (repeat refine PW.seq ?_); refine PW.cond (t := _) rfl (fun h => ?_) (fun h => ?_)
      rotate_left
      · cases h
      (repeat refine PW.seq ?_); refine PW.rg rfl fun K hK => ?_; simp (maxSteps := 3000000) (disch := omega) only [go_sem, ↓reduceIte, reduceCtorEq, pappend, plen, yl, yc, yt, yd]; refine VCx.call (io _) rfl ?_; simp (maxSteps := 3000000) (disch := omega) only [go_sem, ↓reduceIte, reduceCtorEq, pappend, plen, yl, yc, yt, yd]; refine hK _ _ ?_; clear hK K
      (repeat refine PW.seq ?_); refine PW.drawg mix (by kernel_rfl) fun K hK => ?_; simp (maxSteps := 3000000) (disch := omega) only [go_sem, ↓reduceIte, reduceCtorEq, pappend, plen, y0]; refine hK _ _ ?_; clear hK K
      (repeat refine PW.seq ?_); refine PW.rg rfl fun K hK => ?_; simp (maxSteps := 3000000) (disch := omega) only [go_sem, ↓reduceIte, reduceCtorEq, pappend, plen]; refine hK _ _ ?_; clear hK K
      (repeat refine PW.seq ?_); refine PW.cond (t := _) rfl (fun h => ?_) (fun h => ?_)
      · cases h
      refine PW.skip ?_
      (repeat refine PW.seq ?_); refine PW.rg rfl fun K hK => ?_; simp (maxSteps := 3000000) (disch := omega) only [go_sem, ↓reduceIte, reduceCtorEq, pappend, plen]; refine hK _ _ ?_; clear hK K
      (repeat refine PW.seq ?_); refine PW.cond (t := _) rfl (fun h => ?_) (fun h => ?_)
      · cases h
      refine PW.skip ?_
      (repeat refine PW.seq ?_); refine PW.rg rfl fun K hK => ?_; simp (maxSteps := 3000000) (disch := omega) only [go_sem, ↓reduceIte, reduceCtorEq, pappend, plen]; refine hK _ _ ?_; clear hK K
      (repeat refine PW.seq ?_); refine PW.cond (t := _) rfl (fun h => ?_) (fun h => ?_)
      · cases h
      (repeat refine PW.seq ?_); refine PW.drawg mix (by kernel_rfl) fun K hK => ?_; simp (maxSteps := 3000000) (disch := omega) only [go_sem, ↓reduceIte, reduceCtorEq, pappend, plen, lf, f2, f3]
      refine VCz.call (fun _ => ins _) rfl ?_
      simp (maxSteps := 3000000) (disch := omega) only [go_sem, ↓reduceIte, reduceCtorEq, pappend, plen]
      refine hK _ _ ?_; clear hK K
      (repeat refine PW.seq ?_); refine PW.rg rfl fun K hK => ?_; simp (maxSteps := 3000000) (disch := omega) only [go_sem, ↓reduceIte, reduceCtorEq, pappend, plen]; refine hK _ _ ?_; clear hK K
      refine PL.at [5, 6, 7, 8, 9, 10] (?_ : PL _ _ _ (qgF H (insD D (f.fr, f.to)) us pre.length false s.np (j + 1)) (qgC H pre ++ [⟨41, 0, [.int .i64 f.t, .slice (bs f.p) f.p.length false]⟩, ⟨61, 0, itq y nl0 nl0⟩]) _) (by unfold qgF; rw [hD1]; rfl) (by unfold qgC; rw [List.append_assoc]; rfl)
      exact PL.view (Vs.cut (F1 := qgF H (insD D (f.fr, f.to)) us pre.length false s.np (j + 1)) (H1 := qgC H pre) (by rw [qgC_len]; exact Nat.le_add_right _ _) (fun hs => qg_dropC _ hs) (qgF_z (by rw [qgC_len]; omega))) ih
    have de : (e == 0) = true := by simp [he]
    rw [de] at io
    rw [if_pos he] at ih
    have F := iqF pre y nl0 nl0 hpr hb1
    have Fp := F.p
    rw [hb2] at Fp
    have eN : ((pre.length + 1 : Nat) : Int) - 1 = (pre.length : Int) := by omega
    have lp := itL_len pre hpr
    obtain ⟨y2, hy2⟩ : ∃ y2 : It, y2 = { y with pad := 0 + ((f.nx : Int) - f.to) } := ⟨_, rfl⟩
    rw [← hy2] at ih
    have F' := iqF pre y2 nl0 nl0 hpr (by rw [hy2]; exact hb1)
    have hU2 : y2.U = [] := by rw [hy2]; exact hb3
    have hSn : y2.us = [] := by rw [hy2]; exact hb4
    obtain ⟨np2, hnp2⟩ : ∃ np2 : Nat, np2 = if y.k = 3 then s.np + 1 else s.np := ⟨_, rfl⟩
    suffices hP : PL Tryz.prog _ _ (qgF H D us (pre.length + 1) (y.k == 3) np2 (j + 1)) (H ++ [imB (pre.length + 1) (itL pre ++ itq y2 nl0 nl0)] ++ [⟨41, 0, [.int .i64 f.t, .slice (bs f.p) f.p.length false]⟩, ⟨61, 0, itq y nl0 nl0⟩]) _ by
      obtain ⟨Y, hY⟩ : ∃ Y, Y = itq y nl0 nl0 := ⟨_, rfl⟩
      rw [← hY] at io yl yc yt yd y0
      refine PL.round ?_; (repeat refine PW.seq ?_); refine PW.rg rfl fun K hK => ?_; simp (maxSteps := 3000000) (disch := omega) only [go_sem, ↓reduceIte, reduceCtorEq, pappend, plen, qgF, qgC, ct]; refine hK _ _ ?_; clear hK K; (repeat refine PW.seq ?_); refine PW.cond (t := _) rfl (fun h => ?_) (fun h => ?_)
      rotate_left
      · cases h
      refine PW.skip ?_; (repeat refine PW.seq ?_); refine PW.block ?_
      (repeat refine PW.seq ?_); refine PW.rg rfl fun K hK => ?_; simp (maxSteps := 3000000) (disch := omega) only [go_sem, ↓reduceIte, reduceCtorEq, pappend, plen, lf, fat]; refine hK _ _ ?_; clear hK K
      (repeat refine PW.seq ?_); refine PW.rg rfl fun K hK => ?_; simp (maxSteps := 3000000) (disch := omega) only [go_sem, ↓reduceIte, reduceCtorEq, pappend, plen]; refine hK _ _ ?_; clear hK K
      (repeat refine PW.seq ?_); refine PW.rg rfl fun K hK => ?_; simp (maxSteps := 3000000) (disch := omega) only [go_sem, ↓reduceIte, reduceCtorEq, pappend, plen]; refine VCx.call (bg _) rfl ?_; simp (maxSteps := 3000000) (disch := omega) only [go_sem, ↓reduceIte, reduceCtorEq, pappend, plen]; refine hK _ _ ?_; clear hK K
      (repeat refine PW.seq ?_); refine PW.cond (t := _) rfl (fun h => ?_) (fun h => ?_)
      rotate_left
      · cases h
      (repeat refine PW.seq ?_); refine PW.rg rfl fun K hK => ?_; simp (maxSteps := 3000000) (disch := omega) only [go_sem, ↓reduceIte, reduceCtorEq, pappend, plen, yl, yc, yt, yd]; refine VCx.call (io _) rfl ?_; simp (maxSteps := 3000000) (disch := omega) only [go_sem, ↓reduceIte, reduceCtorEq, pappend, plen, yl, yc, yt, yd]; refine hK _ _ ?_; clear hK K
      (repeat refine PW.seq ?_); refine PW.drawg mix (by kernel_rfl) fun K hK => ?_; simp (maxSteps := 3000000) (disch := omega) only [go_sem, ↓reduceIte, reduceCtorEq, pappend, plen, y0]; refine hK _ _ ?_; clear hK K
      (repeat refine PW.seq ?_); refine PW.rg rfl fun K hK => ?_; simp (maxSteps := 3000000) (disch := omega) only [go_sem, ↓reduceIte, reduceCtorEq, pappend, plen]; refine hK _ _ ?_; clear hK K
      (repeat refine PW.seq ?_); refine PW.cond (t := _) rfl (fun h => ?_) (fun h => ?_)
      rotate_left
      · cases h
      have lpY : (itL pre ++ Y).length = (pre.length + 1) * 148 := by rw [hY]; exact F.ln
      (repeat refine PW.seq ?_); refine PW.rg rfl fun K hK => ?_; simp (maxSteps := 3000000) (disch := omega) only [go_sem, ↓reduceIte, reduceCtorEq, pappend, plen, imB, lp, yl, yt, yc, lpY]; refine hK _ _ ?_; clear hK K
      suffices hP2 : PW Tryz.prog _ _ (qgF H D us (pre.length + 1) (y.k == 3) np2 j ++ [(11, .ptr (H.length + 1) 0 0), (12, .bool true)]) (H ++ [imB (pre.length + 1) (itL pre ++ itq y nl0 nl0), ⟨41, 0, [.int .i64 f.t, .slice (bs f.p) f.p.length false]⟩, ⟨61, 0, itq y nl0 nl0⟩]) _ by
        by_cases h3 : y.k = 3
        · have d3 : (y.k == 3) = true := by simp [h3]
          rw [if_pos h3] at hnp2
          rw [hnp2, d3] at hP2
          (repeat refine PW.seq ?_); refine PW.rg rfl fun K hK => ?_; simp (maxSteps := 3000000) (disch := omega) only [go_sem, ↓reduceIte, reduceCtorEq, pappend, plen, d3]; refine hK _ _ ?_; clear hK K
          (repeat refine PW.seq ?_); refine PW.cond (t := _) rfl (fun h => ?_) (fun h => ?_)
          rotate_left
          · cases h
          (repeat refine PW.seq ?_); refine PW.rg rfl fun K hK => ?_; simp (maxSteps := 3000000) (disch := omega) only [go_sem, ↓reduceIte, reduceCtorEq, pappend, plen]; refine hK _ _ ?_; clear hK K
          exact PW.at [5, 6, 7, 8, 9, 10, 11, 12] hP2 rfl (by rw [hY]; rfl)
        · have d3 : (y.k == 3) = false := by simp [h3]
          rw [if_neg h3] at hnp2
          rw [hnp2, d3] at hP2
          (repeat refine PW.seq ?_); refine PW.rg rfl fun K hK => ?_; simp (maxSteps := 3000000) (disch := omega) only [go_sem, ↓reduceIte, reduceCtorEq, pappend, plen, d3]; refine hK _ _ ?_; clear hK K
          (repeat refine PW.seq ?_); refine PW.cond (t := _) rfl (fun h => ?_) (fun h => ?_)
          · cases h
          refine PW.skip ?_
          exact PW.at [5, 6, 7, 8, 9, 10, 11, 12] hP2 rfl (by rw [hY]; rfl)
      unfold qgF
      (repeat refine PW.seq ?_); refine PW.rg rfl fun K hK => ?_; simp (maxSteps := 3000000) (disch := omega) only [go_sem, ↓reduceIte, reduceCtorEq, pappend, plen]; refine hK _ _ ?_; clear hK K
      (repeat refine PW.seq ?_); refine PW.cond (t := _) rfl (fun h => ?_) (fun h => ?_)
      rotate_left
      · cases h
      (repeat refine PW.seq ?_); refine PW.drawi [H.length] [(99, [0]), (100, [0]), (103, [0]), (104, [0]), (118, [0]), (119, [0])] [] [] mix (by kernel_rfl) (by simp <;> omega) fun K hK => ?_
      simp (maxSteps := 3000000) (disch := omega) only [go_sem, ↓reduceIte, reduceCtorEq, pappend, plen, imB, eN, F.ln, Fp, F.sp, lf, f3, f4, arith]
      refine hK _ _ ?_; clear hK K
      (repeat refine PW.seq ?_); refine PW.rg rfl fun K hK => ?_; simp (maxSteps := 3000000) (disch := omega) only [go_sem, ↓reduceIte, reduceCtorEq, pappend, plen]; refine hK _ _ ?_; clear hK K
      exact PL.at [5, 6, 7, 8, 9, 10] hP rfl (by rw [hy2, List.append_assoc]; rfl)
    by_cases h3 : y.k = 3
    rotate_left
    · have d3 : (y.k == 3) = false := by simp [h3]
      rw [if_neg h3] at ih hnp2
      rw [d3, hnp2]
      dsimp only at ih
      rw [hD] at ih
      have hi2 : (PSt.mk (pre ++ [y2]) none s.np).its.length = pre.length + 1 := by simp [PSt.its]
      rw [hi2] at ih
      exact PL.view (Vs.cut (F1 := qgF H D us (pre.length + 1) false s.np (j + 1)) (H1 := qgC H (pre ++ [y2])) (by rw [qgC_len]; exact Nat.le_add_right _ _) (fun hs => qg_dropN _ hU2 hSn hs) (qgF_z (by rw [qgC_len]; omega))) ih
    · have d3 : (y.k == 3) = true := by simp [h3]
      rw [if_pos h3] at ih hnp2
      rw [d3, hnp2]
      dsimp only at ih
      rw [hD] at ih
      have hi2 : (PSt.mk pre (some y2) (s.np + 1)).its.length = pre.length + 1 := by simp [PSt.its]
      rw [hi2] at ih
      have hnl : ∀ n : Nat, Scoped n nl0 := fun n => sl_scoped fun x hx => by cases hx
      have hl1 : (H ++ [imB (pre.length + 1) (itL pre ++ itq y2 nl0 nl0)]).length = H.length + 1 := by simp
      refine PL.view (Vs.cut (F1 := qgF H D us (pre.length + 1) true (s.np + 1) (j + 1)) (H1 := H ++ [imB (pre.length + 1) (itL pre ++ itq y2 nl0 nl0)]) (by rw [hl1]; exact Nat.le_add_right _ _) (fun hs => ?_) (qgF_z (by rw [hl1]; omega))) ?_
      · exact CutH.of (A := H) (L := [imB (pre.length + 1) (itL pre ++ itq y2 nl0 nl0)]) (K := [⟨41, 0, [.int .i64 f.t, .slice (bs f.p) f.p.length false]⟩, ⟨61, 0, itq y nl0 nl0⟩]) (L1 := [imB (pre.length + 1) (itL pre ++ itq y2 nl0 nl0)]) hs ⟨rfl, rfl, FzC.refl (itP_sc _ _ _ _ _ (hnl _) (hnl _)), trivial⟩
      refine PL.view (Vs.ghostH (id := H.length) (j := pre.length * 148 + 145) (k := imB (pre.length + 1) (itL pre ++ itq y2 nl0 nl0)) 22 1 (apn H _ 0) F'.u) ?_
      have F2 := iqF pre y2 (mU2 H.length 0) nl0 hpr (by rw [hy2]; exact hb1)
      refine PL.eq rfl (show _ = H ++ [imB (pre.length + 1) (itL pre ++ itq y2 (mU2 H.length 0) nl0), ⟨22, 0, []⟩] from by
        have := F'.su (mU2 H.length 0)
        unfold imB
        dsimp only
        rw [← this]
        simp [mU2]) ?_
      refine PL.view (Vs.ghostH (id := H.length) (j := pre.length * 148 + 146) (k := imB (pre.length + 1) (itL pre ++ itq y2 (mU2 H.length 0) nl0)) 41 2 (apn H _ 0) F2.s) ?_
      refine PL.at [5, 6, 7, 8, 9, 10] ih rfl ?_
      have := F2.ss (mS2 H.length 0)
      show _ = qgO H pre y2
      unfold qgO
      rw [hU2, hSn]
      show _ = H ++ [imB (pre.length + 1) (itL pre ++ itq y2 (mU2 H.length 0) (mS2 H.length 0)), ⟨22, 0, []⟩, ⟨41, 0, []⟩]
      rw [← this]
      simp [mS2, imB]

end Go.Proofs.YtbhdollgohgkgaaGreatDoor.Sc
