/-
  Parts of the proof. No condition.
-/
import Derived.Test.YtbhdollgohgkgaaGreatDoorA23
import Derived.Test.YtbhdollgohgkgaaGreatDoorA27
import Derived.Test.YtbhdollgohgkgaaGreatDoorA24
namespace Go.Proofs.YtbhdollgohgkgaaGreatDoor.Sc
set_option linter.all false
set_option linter.unusedVariables false
set_option linter.unusedSimpArgs false
open Pm Ty S3 Go.RowKit

/-! ### what Split finds is small -/
theorem splF_b (b : List UInt8) (hu : ∀ x, (unR x).1.length ≤ x.length) : ∀ (n i : Nat) (us : List Fnd) (ds : List (Nat × Nat)), i ≤ b.length → (i < b.length → i + 4 ≤ b.length) → (∀ f ∈ us, f.to ≤ f.nx ∧ f.nx ≤ b.length ∧ f.p.length ≤ b.length) → ∀ f ∈ (splF b n i us ds).1, f.to ≤ f.nx ∧ f.nx ≤ b.length ∧ f.p.length ≤ b.length
  | 0, i, us, ds, _, _, h => h
  | n + 1, i, us, ds, hi, hr, h => by
    unfold splF
    split
    · rename_i hb
      have hx1 := nxt_le b (i + 4)
      have hx3 := nxt_room b (i + 4)
      have ht1 := trm_le b (i + 4) (nxt b (i + 4))
      split
      · refine splF_b b hu n _ _ _ hx1 hx3 fun f hf => ?_
        rcases List.mem_append.1 hf with hf | hf
        · exact h f hf
        · obtain rfl := List.mem_singleton.1 hf
          refine ⟨ht1, hx1, ?_⟩
          have := hu (S3.part b (i + 4) (trm b (i + 4) (nxt b (i + 4))))
          rw [S3.part_len b _ _ (by omega)] at this
          show (unR _).1.length ≤ _
          omega
      · exact splF_b b hu n _ _ _ hx1 hx3 h
    · exact h
theorem spl_b (b : List UInt8) (hu : ∀ x, (unR x).1.length ≤ x.length) : ∀ f ∈ (spl b).1, f.to ≤ f.nx ∧ f.nx ≤ b.length ∧ f.p.length ≤ b.length :=
  splF_b b hu _ _ _ _ (nxt_le b 0) (nxt_room b 0) (fun f hf => by cases hf)

/-! ### memory between two units -/
def pgO (H : Heap) (D : List (Nat × Nat)) (pre : List It) (x : It) (np : Nat) : Heap := H ++ [dfB D, prB (H.length + 1) (pre.length + 1) np true, imB (pre.length + 1) (itL pre ++ itq x (mU (H.length + 1) x.U.length) (mS (H.length + 1) x.us.length)), ucB x.U.length (x.U.flatMap usr1), scB x.us]
def pgC (H : Heap) (D : List (Nat × Nat)) (pre : List It) (np : Nat) (op : Bool) : Heap := H ++ [dfB D, prB (H.length + 1) pre.length np op, imB pre.length (itL pre)]
def pgH (H : Heap) (D : List (Nat × Nat)) (s : PSt) : Heap := match s.cur with
  | some x => pgO H D s.pre x s.np
  | none => pgC H D s.pre s.np false
def pgF (H : Heap) (D : List (Nat × Nat)) (us : List Fnd) (i : Nat) : Fr := [(6, .msl H.length (dc D).length 0 D.length 2 true), (7, .ptr (H.length + 1) 0 0), (18, .slice (fc us) us.length false), (19, .int .i64 (us.length : Int)), (20, .int .i64 (i : Int))]
/-- What a unit that begins an item makes of complete items. -/
def bgnS (pre : List It) (np : Nat) (D : List (Nat × Nat)) (f : Fnd) : PSt × List (Nat × Nat) :=
  if (bgn f.t f.p).2 = 0 then
    if (bgn f.t f.p).1.k = 3 then (⟨pre, some { (bgn f.t f.p).1 with pad := 0 + ((f.nx : Int) - f.to) }, np + 1⟩, D) else (⟨pre ++ [{ (bgn f.t f.p).1 with pad := 0 + ((f.nx : Int) - f.to) }], none, np⟩, D)
  else (⟨pre, none, np⟩, D ++ [(f.fr, f.to)])
theorem stp_bgn {s : PSt} {D : List (Nat × Nat)} {f : Fnd} (h1 : ¬ f.t = 178) (h2 : ¬ (1 ≤ f.t ∧ f.t < 5)) (h0 : ¬ (bgn f.t f.p).1.k = 0) : stpP (s, D) f = bgnS s.its s.np D f := by
  have hp := (bgn_ok (t := f.t) (q := f.p)).2.1
  unfold stpP bgnS
  dsimp only
  unfold accP
  rw [if_neg h1, if_neg h2, if_neg h0]
  by_cases he : (bgn f.t f.p).2 = 0
  · rw [if_pos he, if_pos he]
    by_cases hk : (bgn f.t f.p).1.k = 3
    · rw [if_pos hk, if_pos hk, if_pos rfl]
      unfold padP
      dsimp only
      rw [hp]
    · rw [if_neg hk, if_neg hk, if_pos rfl]
      unfold padP
      dsimp only
      rw [mod_last, hp]
  · rw [if_neg he, if_neg he, if_neg (by simp)]
theorem stp_rej {s : PSt} {D : List (Nat × Nat)} {f : Fnd} (h : accP s f.t f.p = (s, false)) : stpP (s, D) f = (s, D ++ [(f.fr, f.to)]) := by
  unfold stpP
  dsimp only
  rw [h, if_neg (by simp)]
theorem scB_sc (n : Nat) (us : List (Int × List UInt8)) : ∀ x ∈ (scB us).cells, Scoped n x := uq_sc n us
/-- The open picture's slices are complete. -/
theorem pg_close {H : Heap} {D : List (Nat × Nat)} {pre : List It} {x : It} {np : Nat} (op : Bool) (K : Heap) (h : HSc H) : CutH (H ++ [dfB D, prB (H.length + 1) (pre.length + 1) np op, imB (pre.length + 1) (itL pre ++ itq x (mU (H.length + 1) x.U.length) (mS (H.length + 1) x.us.length)), ucB x.U.length (x.U.flatMap usr1), scB x.us]) (pgC H D (pre ++ [x]) np op) := by
  have hl : (pre ++ [x]).length = pre.length + 1 := by simp
  have e : itL (pre ++ [x]) = itL pre ++ itc x := by simp [itL]
  unfold pgC
  rw [hl, e]
  refine CutH.of (A := H) (L := [dfB D, prB (H.length + 1) (pre.length + 1) np op, imB (pre.length + 1) (itL pre ++ itq x (mU (H.length + 1) x.U.length) (mS (H.length + 1) x.us.length))]) (K := [ucB x.U.length (x.U.flatMap usr1), scB x.us]) (L1 := [dfB D, prB (H.length + 1) (pre.length + 1) np op, imB (pre.length + 1) (itL pre ++ itc x)]) h ?_ |> fun h => by simpa using h
  refine ⟨rfl, rfl, FzC.refl (dc_sc _ _), rfl, rfl, FzC.refl (prB_sc _ _ _ _ _ (by simp)), rfl, rfl, ?_, trivial⟩
  refine FzC.append (FzC.refl (itL_sc _ _)) ?_
  rw [← itq_c]
  unfold itq
  refine ⟨.id (.int _ _), FzC.append (FzC.refl (sqc_scoped _ _)) ⟨.id (.bool _), .id (.bool _), .id (.int _ _), FzC.append (FzC.refl (pic_scV _ _)) ⟨?_, ?_, .id (.int _ _), trivial⟩⟩⟩
  · exact Fz.mslC (e := 22) (xs := x.U.flatMap usr1) (by simp) (by rw [List.append_assoc]; exact apn H _ 3) (by rw [usr_l]; omega) (FzC.refl (ucB_sc _ _))
  · exact Fz.mslC (e := 41) (xs := uq x.us) (by simp) (by rw [List.append_assoc]; exact apn H _ 4) (uq_len _) (FzC.refl (uq_sc _ _))

theorem pgF_z {n : Nat} {H Hx : Heap} {D : List (Nat × Nat)} {us : List Fnd} {i : Nat} (hn : H.length + 1 < n) : FzF n Hx (pgF H D us i) (pgF H D us i) :=
  ⟨.id (.msl (by omega)), .id (.ptr (by omega)), .id (sl_scoped (fc_sc _ _)), .id (.int _ _), .id (.int _ _), trivial⟩
theorem pgC_len (H : Heap) (D : List (Nat × Nat)) (pre : List It) (np : Nat) (op : Bool) : (pgC H D pre np op).length = H.length + 3 := by simp [pgC]
theorem pgO_len (H : Heap) (D : List (Nat × Nat)) (pre : List It) (x : It) (np : Nat) : (pgO H D pre x np).length = H.length + 5 := by simp [pgO]
/-- A unit's place is given up; the items stay as they are. -/
theorem pg_dropC {H : Heap} {D : List (Nat × Nat)} {pre : List It} {np : Nat} {op : Bool} (k : Blk) (h : HSc H) : CutH (H ++ [dfB D, prB (H.length + 1) pre.length np op, imB pre.length (itL pre), k]) (pgC H D pre np op) := by
  have := CutH.of (A := H) (L := [dfB D, prB (H.length + 1) pre.length np op, imB pre.length (itL pre)]) (K := [k]) (L1 := [dfB D, prB (H.length + 1) pre.length np op, imB pre.length (itL pre)]) h ⟨rfl, rfl, FzC.refl (dc_sc _ _), rfl, rfl, FzC.refl (prB_sc _ _ _ _ _ (by simp)), rfl, rfl, FzC.refl (itL_sc _ _), trivial⟩
  rwa [List.append_assoc] at this
/-- .. the last item's slices are nil. -/
theorem pg_dropN {H : Heap} {D : List (Nat × Nat)} {pre : List It} {y : It} {np : Nat} {op : Bool} (k : Blk) (hU : y.U = []) (hs : y.us = []) (h : HSc H) : CutH (H ++ [dfB D, prB (H.length + 1) (pre.length + 1) np op, imB (pre.length + 1) (itL pre ++ itq y nl0 nl0), k]) (pgC H D (pre ++ [y]) np op) := by
  have hl : (pre ++ [y]).length = pre.length + 1 := by simp
  have e : itL (pre ++ [y]) = itL pre ++ itc y := by simp [itL]
  unfold pgC
  rw [hl, e]
  have := CutH.of (A := H) (L := [dfB D, prB (H.length + 1) (pre.length + 1) np op, imB (pre.length + 1) (itL pre ++ itq y nl0 nl0)]) (K := [k]) (L1 := [dfB D, prB (H.length + 1) (pre.length + 1) np op, imB (pre.length + 1) (itL pre ++ itc y)]) h ⟨rfl, rfl, FzC.refl (dc_sc _ _), rfl, rfl, FzC.refl (prB_sc _ _ _ _ _ (by simp)), rfl, rfl, FzC.append (FzC.refl (itL_sc _ _)) (by
    rw [← itq_c, hU, hs]
    unfold itq
    exact ⟨.id (.int _ _), FzC.append (FzC.refl (sqc_scoped _ _)) ⟨.id (.bool _), .id (.bool _), .id (.int _ _), FzC.append (FzC.refl (pic_scV _ _)) ⟨Fz.sliceC (xs := []) (ys := []) trivial (fun h => by cases h), Fz.sliceC (xs := []) (ys := []) trivial (fun h => by cases h), .id (.int _ _), trivial⟩⟩⟩), trivial⟩
  rwa [List.append_assoc] at this
/-- .. of an open picture. -/
theorem pg_dropO {H : Heap} {D : List (Nat × Nat)} {pre : List It} {x : It} {np : Nat} {C : List PV} (k : Blk) (hC : ∀ n X, FzC n X C (x.U.flatMap usr1)) (h : HSc H) : CutH (H ++ [dfB D, prB (H.length + 1) (pre.length + 1) np true, imB (pre.length + 1) (itL pre ++ itq x (mU (H.length + 1) x.U.length) (mS (H.length + 1) x.us.length)), ucB x.U.length C, scB x.us, k]) (pgO H D pre x np) := by
  have := CutH.of (A := H) (L := [dfB D, prB (H.length + 1) (pre.length + 1) np true, imB (pre.length + 1) (itL pre ++ itq x (mU (H.length + 1) x.U.length) (mS (H.length + 1) x.us.length)), ucB x.U.length C, scB x.us]) (K := [k]) (L1 := [dfB D, prB (H.length + 1) (pre.length + 1) np true, imB (pre.length + 1) (itL pre ++ itq x (mU (H.length + 1) x.U.length) (mS (H.length + 1) x.us.length)), ucB x.U.length (x.U.flatMap usr1), scB x.us]) h ⟨rfl, rfl, FzC.refl (dc_sc _ _), rfl, rfl, FzC.refl (prB_sc _ _ _ _ _ (by simp)), rfl, rfl, FzC.refl (itP_sc _ _ _ _ _ (.msl (by simp)) (.msl (by simp))), rfl, rfl, hC _ _, rfl, rfl, FzC.refl (scB_sc _ _), trivial⟩
  rwa [List.append_assoc] at this
theorem usr_fz (U : List (List UInt8)) (n : Nat) (X : Heap) : FzC n X (U.flatMap usr1) (U.flatMap usr1) := FzC.refl (ucB_sc n U)
theorem usT_fz (U : List (List UInt8)) (u : List UInt8) (n : Nat) (X : Heap) : FzC n X (U.flatMap usr1 ++ [usT u]) ((U ++ [u]).flatMap usr1) := by
  have e : (U ++ [u]).flatMap usr1 = U.flatMap usr1 ++ usr1 u := by simp
  rw [e]
  exact FzC.append (FzC.refl (ucB_sc n U)) ⟨Fz.sliceC (FzC.refl (bs_scoped _ _)) (fun h => by cases h), trivial⟩

theorem stp_app (s : PSt) (d r : List (Nat × Nat)) (f : Fnd) : stpP (s, d ++ r) f = ((stpP (s, r) f).1, d ++ (stpP (s, r) f).2) := by
  unfold stpP
  dsimp only
  split
  · rfl
  · simp
theorem stp_user {s : PSt} {D : List (Nat × Nat)} {f : Fnd} {x : It} (hc : s.cur = some x) (ht : f.t = 178) (hu : usB f.p = true) : stpP (s, D) f = (⟨s.pre, some { x with U := x.U ++ [f.p.take (f.p.length - 1)], pad := x.pad + ((f.nx : Int) - f.to) }, s.np⟩, D) := by
  have e : accP s f.t f.p = (⟨s.pre, some { x with U := x.U ++ [f.p.take (f.p.length - 1)] }, s.np⟩, true) := by
    unfold accP
    rw [if_pos ht, hc]
    dsimp only
    rw [if_pos hu]
  unfold stpP
  dsimp only
  rw [e, if_pos rfl]; rfl
theorem stp_slice {s : PSt} {D : List (Nat × Nat)} {f : Fnd} {x : It} (hc : s.cur = some x) (ht : ¬ f.t = 178) (hs : 1 ≤ f.t ∧ f.t < 5) : stpP (s, D) f = (⟨s.pre, some { x with us := x.us ++ [(f.t, f.p)], pad := x.pad + ((f.nx : Int) - f.to) }, s.np⟩, D) := by
  have e : accP s f.t f.p = (⟨s.pre, some { x with us := x.us ++ [(f.t, f.p)] }, s.np⟩, true) := by
    unfold accP
    rw [if_neg ht, if_pos hs, hc]
  unfold stpP
  dsimp only
  rw [e, if_pos rfl]; rfl
def fdB (f : Fnd) : Blk := ⟨43, 0, [.int .i64 f.t, .slice (bs f.p) f.p.length false, .int .i64 (f.fr : Int), .int .i64 (f.to : Int), .int .i64 (f.nx : Int)]⟩
def rvPP (r : List It × List (Nat × Nat) × Int) : PV := .tup [.slice (itL r.1) r.1.length false, .slice (dc r.2.1) r.2.1.length false, .int .i64 r.2.2]
set_option maxHeartbeats 16000000 in
set_option maxRecDepth 100000 in
theorem parse_ok (b : List UInt8) (full : Bool) (H : Heap) (hl : b.length ≤ 2000000) (hu : ∀ x, (unR x).1.length ≤ x.length) (hpl : ∀ f ∈ (spl b).1, f.p.length ≤ 1000000) : CallOk Tryz.prog 4 [.slice (bs b) b.length full] H (rvPP (parP b)) H := by
  have so := fun K => split_m b full K hl
  have hfb := spl_b b hu
  have hsl := spl_len b
  obtain ⟨hsd, hnd⟩ := prs_nodup b
  obtain ⟨hl1, hl2⟩ := prs_len (spl b).1
  have er : ∀ K, Fin H (rvPP ([], [], 5)) H (.tup [.slice [] 0 true, .slice [] 0 true, .int .i64 5]) (H ++ K) := fun K => Fin.base (Fz.tupC ⟨Fz.sliceC (xs := []) (ys := []) trivial (fun h => by cases h), Fz.sliceC (xs := []) (ys := []) trivial (fun h => by cases h), .id (.int _ _), trivial⟩)
  have er0 := er []
  rw [List.append_nil] at er0
  unfold parP badP
  refine CallOk.body (F0 := [(0, .slice (bs b) b.length full)]) Tryz.func4 rfl Tryz.ntmps4 Tryz.results4 rfl (by kernel_rfl) rfl ?_
  (repeat refine PW.seq ?_); refine PW.rg rfl fun K hK => ?_; simp (maxSteps := 3000000) (disch := omega) only [go_sem, ↓reduceIte, reduceCtorEq, pappend, plen]; refine hK _ _ ?_; clear hK K
  by_cases h1 : 1048576 < b.length
  · rw [if_pos h1]
    have d1 : decide (1048576 < (b.length : Int)) = true := decide_eq_true (by omega)
    (repeat refine PW.seq ?_); refine PW.rg rfl fun K hK => ?_; simp (maxSteps := 3000000) (disch := omega) only [go_sem, ↓reduceIte, reduceCtorEq, pappend, plen, length_bs, d1]; refine hK _ _ ?_; clear hK K
    (repeat refine PW.seq ?_); refine PW.cond (t := _) rfl (fun h => ?_) (fun h => ?_)
    rotate_left
    · cases h
    (repeat refine PW.seq ?_); refine PW.rg rfl fun K hK => ?_; simp (maxSteps := 3000000) (disch := omega) only [go_sem, ↓reduceIte, reduceCtorEq, pappend, plen]; refine hK _ _ ?_; clear hK K
    refine PW.ret ⟨.tup [.slice [] 0 true, .slice [] 0 true, .int .i64 5], by simp (maxSteps := 3000000) (disch := omega) only [go_sem, ↓reduceIte, reduceCtorEq, pappend, plen, presults, presult, List.mapM_cons, List.mapM_nil, Option.pure_def, Option.bind_eq_bind, Option.bind_some, Array.toList], ?_⟩
    exact er0
  rw [if_neg h1]
  have d1 : decide (1048576 < (b.length : Int)) = false := decide_eq_false (by omega)
  (repeat refine PW.seq ?_); refine PW.rg rfl fun K hK => ?_; simp (maxSteps := 3000000) (disch := omega) only [go_sem, ↓reduceIte, reduceCtorEq, pappend, plen, length_bs, d1]; refine hK _ _ ?_; clear hK K
  (repeat refine PW.seq ?_); refine PW.cond (t := _) rfl (fun h => ?_) (fun h => ?_)
  · cases h
  refine PW.skip ?_
  (repeat refine PW.seq ?_); refine PW.rg rfl fun K hK => ?_; simp (maxSteps := 3000000) (disch := omega) only [go_sem, ↓reduceIte, reduceCtorEq, pappend, plen]; refine VCx.call (so _) rfl ?_; simp (maxSteps := 3000000) (disch := omega) only [go_sem, ↓reduceIte, reduceCtorEq, pappend, plen]; refine hK _ _ ?_; clear hK K
  clear so
  generalize spl b = SP at *
  obtain ⟨us, d0⟩ := SP
  dsimp only at *
  (repeat refine PW.seq ?_); refine PW.rg rfl fun K hK => ?_; simp (maxSteps := 3000000) (disch := omega) only [go_sem, ↓reduceIte, reduceCtorEq, pappend, plen]; refine hK _ _ ?_; clear hK K
  refine PW.view (Vs.ghostH (id := H.length + 1) (j := 0) 61 148 (apn H _ 1) rfl) ?_
  (repeat refine PW.seq ?_); refine PW.rg rfl fun K hK => ?_; simp (maxSteps := 3000000) (disch := omega) only [go_sem, ↓reduceIte, reduceCtorEq, pappend, plen]; refine hK _ _ ?_; clear hK K
  refine PW.at [6, 7, 18, 19, 20] (?_ : PW _ _ _ (pgF H d0 us 0) (pgC H d0 [] 0 false) _) rfl rfl
  (repeat refine PW.seq ?_); refine PW.block (PW.loop ?_)
  have hbi : ∀ (f : Fnd), SqOk (bgn f.t f.p).1.s ∧ (bgn f.t f.p).1.pad = 0 ∧ (bgn f.t f.p).1.U = [] ∧ (bgn f.t f.p).1.us = [] := fun f => bgn_ok
  have hI : ∀ j, j ≤ us.length → PInv (prsP (us.take j)).1 j := by
    intro j
    induction j with
    | zero => intro _; exact ps0_inv
    | succ j ih =>
      intro hj
      rw [prs_take (by omega)]
      have hm := hfb _ (List.getElem_mem (show j < us.length by omega))
      exact pinv_step (ih (by omega)) (hbi _) ⟨hm.1, by omega⟩
  suffices hloop : ∀ j, j ≤ us.length → PL Tryz.prog _ _ (pgF H (d0 ++ (prsP (us.take j)).2) us j) (pgH H (d0 ++ (prsP (us.take j)).2) (prsP (us.take j)).1) _ by
    have := hloop 0 (by omega)
    rw [List.take_zero, show prsP [] = (ps0, []) from rfl, List.append_nil] at this
    exact PL.at [6, 7, 18, 19, 20] this rfl rfl
  refine cnt us.length (fun j hj ih => ?_) ?_
  rotate_left
  · refine PL.round ?_; (repeat refine PW.seq ?_); refine PW.rg rfl fun K hK => ?_; simp (maxSteps := 3000000) (disch := omega) only [go_sem, ↓reduceIte, reduceCtorEq, pappend, plen, pgF, lt_f us.length]; refine hK _ _ ?_; clear hK K; (repeat refine PW.seq ?_); refine PW.cond (t := _) rfl (fun h => ?_) (fun h => ?_)
    · cases h
    refine PW.exit ?_
    rw [List.take_length]
    have hIe := hI us.length (Nat.le_refl _)
    rw [List.take_length] at hIe
    clear hI
    generalize prsP us = X at *
    obtain ⟨s, r⟩ := X
    dsimp only at *
    suffices hfin : ∀ (its : List It) (op : Bool), its = s.its → PW Tryz.prog _ _ (pgF H (d0 ++ r) us us.length) (pgC H (d0 ++ r) its s.np op) _ by
      unfold pgH
      cases hc : s.cur with
      | none => exact PW.at [6, 7, 18, 19, 20] (hfin s.pre false (by unfold PSt.its; rw [hc]; simp)) rfl rfl
      | some x =>
        refine PW.at [6, 7, 18, 19, 20] (?_ : PW _ _ _ (pgF H (d0 ++ r) us us.length) (pgO H (d0 ++ r) s.pre x s.np) _) rfl rfl
        exact PW.view (Vs.cut (F1 := pgF H (d0 ++ r) us us.length) (H1 := pgC H (d0 ++ r) (s.pre ++ [x]) s.np true) (by rw [pgC_len]; exact Nat.le_add_right _ _) (fun hs => pg_close true [] hs) (pgF_z (by rw [pgC_len]; omega))) (hfin (s.pre ++ [x]) true (by unfold PSt.its; rw [hc]; rfl))
    intro its op hit
    subst hit
    have hpm := insF_perm r d0
    have hns : (r.foldl insD d0).length = (d0 ++ r).length := hpm.length_eq
    have sc := sort_ok (pgC H (d0 ++ r) s.its s.np op) H.length (d0 ++ r) (r.foldl insD d0) true 46 (dc (d0 ++ r)).length (apn H _ 0) (by have a1 := hsl.2; have a2 := hsl.1; have a3 := hl2; rw [List.length_append]; omega) (fun d' hp hs => srt_one hsd hnd hp hs)
    by_cases h2 : 256 < s.np
    · have d2 : decide (256 < (s.np : Int)) = true := decide_eq_true (by omega)
      rw [if_pos h2]
      (repeat refine PW.seq ?_); refine PW.rg rfl fun K hK => ?_; simp (maxSteps := 3000000) (disch := omega) only [go_sem, ↓reduceIte, reduceCtorEq, pappend, plen, pgF, pgC, prB, d2]; refine hK _ _ ?_; clear hK K
      (repeat refine PW.seq ?_); refine PW.cond (t := _) rfl (fun h => ?_) (fun h => ?_)
      rotate_left
      · cases h
      (repeat refine PW.seq ?_); refine PW.rg rfl fun K hK => ?_; simp (maxSteps := 3000000) (disch := omega) only [go_sem, ↓reduceIte, reduceCtorEq, pappend, plen]; refine hK _ _ ?_; clear hK K
      refine PW.ret ⟨.tup [.slice [] 0 true, .slice [] 0 true, .int .i64 5], by simp (maxSteps := 3000000) (disch := omega) only [go_sem, ↓reduceIte, reduceCtorEq, pappend, plen, presults, presult, List.mapM_cons, List.mapM_nil, Option.pure_def, Option.bind_eq_bind, Option.bind_some, Array.toList], ?_⟩
      exact er _
    have d2 : decide (256 < (s.np : Int)) = false := decide_eq_false (by omega)
    rw [if_neg h2]
    (repeat refine PW.seq ?_); refine PW.rg rfl fun K hK => ?_; simp (maxSteps := 3000000) (disch := omega) only [go_sem, ↓reduceIte, reduceCtorEq, pappend, plen, pgF, pgC, prB, d2]; refine hK _ _ ?_; clear hK K
    (repeat refine PW.seq ?_); refine PW.cond (t := _) rfl (fun h => ?_) (fun h => ?_)
    · cases h
    refine PW.skip ?_
    unfold pgC prB at sc
    (repeat refine PW.seq ?_); refine PW.rg rfl fun K hK => ?_; simp (maxSteps := 3000000) (disch := omega) only [go_sem, ↓reduceIte, reduceCtorEq, pappend, plen]; refine VCx.call (sc) rfl ?_; simp (maxSteps := 3000000) (disch := omega) only [go_sem, ↓reduceIte, reduceCtorEq, pappend, plen]; refine hK _ _ ?_; clear hK K
    (repeat refine PW.seq ?_); refine PW.rg rfl fun K hK => ?_; simp (maxSteps := 3000000) (disch := omega) only [go_sem, ↓reduceIte, reduceCtorEq, pappend, plen, dfB]; refine hK _ _ ?_; clear hK K
    refine PW.ret ⟨.tup [.msl (H.length + 2) (s.its.length * 148) 0 s.its.length 148 true, .msl H.length (dc (d0 ++ r)).length 0 (d0 ++ r).length 2 true, .int .i64 0], by simp (maxSteps := 3000000) (disch := omega) only [go_sem, ↓reduceIte, reduceCtorEq, pappend, plen, presults, presult, List.mapM_cons, List.mapM_nil, Option.pure_def, Option.bind_eq_bind, Option.bind_some, Array.toList], ?_⟩
    unfold rvPP
    dsimp only
    rw [hns]
    refine Fin.base (Fz.tupC ⟨Fz.mslC (e := 61) (xs := itL s.its) (by omega) (apn H _ 2) (itL_len _ fun y hy => (hIe.its y hy).s) (FzC.refl (itL_sc _ _)), Fz.mslC (e := 46) (xs := dc (r.foldl insD d0)) (by omega) (apn H _ 0) (by rw [dc_lnC, hns]) (FzC.refl (dc_sc _ _)), .id (.int _ _), trivial⟩)
  have hf := hfb _ (List.getElem_mem hj)
  have hfp := hpl _ (List.getElem_mem hj)
  have hinv := hI j (by omega)
  have fat : List.take 5 (List.drop (j * 5) (fc us)) = fd us[j] := flat_at fd 5 us j hj fun _ _ => rfl
  have lf := fc_lnC us
  have ct := lt_t hj
  rw [prs_take hj] at ih
  have hrl : (prsP (us.take j)).2.length ≤ j := by have := (prs_len (us.take j)).2; rw [List.length_take] at this; omega
  generalize prsP (us.take j) = X at *
  obtain ⟨s, r⟩ := X
  dsimp only at hrl hinv ⊢
  have hDl : (d0 ++ r).length ≤ 8000000 := by have := hsl.2; rw [List.length_append]; omega
  have ea := congrArg Prod.snd (stp_app s d0 r us[j])
  have eb := congrArg Prod.fst (stp_app s d0 r us[j])
  dsimp only at ea eb
  rw [← ea, ← eb] at ih
  clear ea eb
  generalize hDe : d0 ++ r = D at *
  clear hI hfb hpl hl1 hl2 hnd hsd hDe er er0
  have hbF := hbi us[j]
  generalize us[j] = f at *
  have fat : List.take 5 (List.drop (j * 5) (fc us)) = [.int .i64 f.t, .slice (bs f.p) f.p.length false, .int .i64 (f.fr : Int), .int .i64 (f.to : Int), .int .i64 (f.nx : Int)] := fat
  have ld := dc_lnC D
  have hdc : dc (D ++ [(f.fr, f.to)]) = dc D ++ [.int .i64 (f.fr : Int), .int .i64 (f.to : Int)] := dc_snoc _ _
  have hD1 : (D ++ [(f.fr, f.to)]).length = D.length + 1 := by simp
  have hItC : ∀ y ∈ s.its, SqOk y.s := fun y hy => (hinv.its y hy).s
  have hn := hinv.n
  have hnp := hinv.np
  suffices hB : ∀ (pre : List It) (op : Bool), s.its = pre → ¬ f.t = 178 → ¬ (1 ≤ f.t ∧ f.t < 5) → ¬ (bgn f.t f.p).1.k = 0 → PL Tryz.prog _ _ (pgF H D us j) (pgC H D pre s.np op) _ by
    cases hc : s.cur with
    | none =>
      have hit : s.its = s.pre := by unfold PSt.its; rw [hc]; simp
      have e1 : pgH H D s = pgC H D s.pre s.np false := by unfold pgH; rw [hc]
      rw [e1]
      by_cases hx : ¬ f.t = 178 ∧ ¬ (1 ≤ f.t ∧ f.t < 5) ∧ ¬ (bgn f.t f.p).1.k = 0
      · exact hB s.pre false hit hx.1 hx.2.1 hx.2.2
      have ao : CallOk Tryz.prog 10 [.ptr (H.length + 1) 0 0, .agg [.int .i64 f.t, .slice (bs f.p) f.p.length false]] (H ++ [dfB D, prB (H.length + 1) s.pre.length s.np false, imB s.pre.length (itL s.pre), fdB f]) (.bool false) (H ++ [dfB D, prB (H.length + 1) s.pre.length s.np false, imB s.pre.length (itL s.pre), fdB f]) := by
        by_cases ht : f.t = 178 ∨ (1 ≤ f.t ∧ f.t < 5)
        · have := accC_ok (H ++ [dfB D]) s.pre.length s.np f.t f.p (imB s.pre.length (itL s.pre)) (fdB f) (by omega) ht
          simpa only [List.append_assoc, List.cons_append, List.nil_append, List.length_append, List.length_cons, List.length_nil, Nat.zero_add] using this
        · exact accK_ok _ f.t f.p _ hfp (fun h => ht (.inl h)) (fun h => ht (.inr h)) (by
            refine Decidable.of_not_not fun h => hx ⟨fun h => ht (.inl h), fun h => ht (.inr h), h⟩)
      have hrej : accP s f.t f.p = (s, false) := by
        unfold accP
        rw [hc]
        split
        · rfl
        · split
          · rfl
          · rename_i g1 g2
            rw [if_pos (Decidable.of_not_not fun h => hx ⟨g1, g2, h⟩)]
      have e2 : pgH H (D ++ [(f.fr, f.to)]) s = pgC H (D ++ [(f.fr, f.to)]) s.pre s.np false := by unfold pgH; rw [hc]
      rw [stp_rej hrej] at ih
      dsimp only at ih
      rw [e2] at ih
      unfold fdB at ao
      refine PL.round ?_; (repeat refine PW.seq ?_); refine PW.rg rfl fun K hK => ?_; simp (maxSteps := 3000000) (disch := omega) only [go_sem, ↓reduceIte, reduceCtorEq, pappend, plen, pgF, pgC, ct]; refine hK _ _ ?_; clear hK K; (repeat refine PW.seq ?_); refine PW.cond (t := _) rfl (fun h => ?_) (fun h => ?_)
      rotate_left
      · cases h
      refine PW.skip ?_; (repeat refine PW.seq ?_); refine PW.block ?_
      (repeat refine PW.seq ?_); refine PW.rg rfl fun K hK => ?_; simp (maxSteps := 3000000) (disch := omega) only [go_sem, ↓reduceIte, reduceCtorEq, pappend, plen, lf, fat]; refine hK _ _ ?_; clear hK K
      (repeat refine PW.seq ?_); refine PW.rg rfl fun K hK => ?_; simp (maxSteps := 3000000) (disch := omega) only [go_sem, ↓reduceIte, reduceCtorEq, pappend, plen]; refine VCx.call (ao) rfl ?_; simp (maxSteps := 3000000) (disch := omega) only [go_sem, ↓reduceIte, reduceCtorEq, pappend, plen]; refine hK _ _ ?_; clear hK K
      (repeat refine PW.seq ?_); refine PW.cond (t := _) rfl (fun h => ?_) (fun h => ?_)
      rotate_left
      · cases h
      (repeat refine PW.seq ?_); refine PW.rg rfl fun K hK => ?_; simp (maxSteps := 3000000) (disch := omega) only [go_sem, ↓reduceIte, reduceCtorEq, pappend, plen, dfB, ld]; refine hK _ _ ?_; clear hK K
      refine PW.exit ?_
      (repeat refine PW.seq ?_); refine PW.rg rfl fun K hK => ?_; simp (maxSteps := 3000000) (disch := omega) only [go_sem, ↓reduceIte, reduceCtorEq, pappend, plen]; refine hK _ _ ?_; clear hK K
      refine PL.at [6, 7, 18, 19, 20] (?_ : PL _ _ _ (pgF H (D ++ [(f.fr, f.to)]) us (j + 1)) (H ++ [dfB (D ++ [(f.fr, f.to)]), prB (H.length + 1) s.pre.length s.np false, imB s.pre.length (itL s.pre), fdB f]) _) (by unfold pgF; rw [hdc, hD1]; rfl) (by unfold dfB fdB; rw [hdc])
      exact PL.view (Vs.cut (F1 := pgF H (D ++ [(f.fr, f.to)]) us (j + 1)) (H1 := pgC H (D ++ [(f.fr, f.to)]) s.pre s.np false) (by rw [pgC_len]; exact Nat.le_add_right _ _) (fun hs => pg_dropC (fdB f) hs) (pgF_z (by rw [pgC_len]; omega))) ih
    | some x =>
      have hit : s.its = s.pre ++ [x] := by unfold PSt.its; rw [hc]; rfl
      have e1 : pgH H D s = pgO H D s.pre x s.np := by unfold pgH; rw [hc]
      rw [e1]
      have hxI := hinv.its x (by rw [hit]; simp)
      have hpr : ∀ y ∈ s.pre, SqOk y.s := fun y hy => hItC y (by rw [hit]; simp [hy])
      have hpn : s.pre.length + 1 ≤ j := by have := hn; rw [hit] at this; simpa using this
      by_cases hx : ¬ f.t = 178 ∧ ¬ (1 ≤ f.t ∧ f.t < 5) ∧ ¬ (bgn f.t f.p).1.k = 0
      · exact PL.view (Vs.cut (F1 := pgF H D us j) (H1 := pgC H D (s.pre ++ [x]) s.np true) (by rw [pgC_len]; exact Nat.le_add_right _ _) (fun hs => pg_close true [] hs) (pgF_z (by rw [pgC_len]; omega))) (hB (s.pre ++ [x]) true hit hx.1 hx.2.1 hx.2.2)
      suffices hR : accP s f.t f.p = (s, false) → CallOk Tryz.prog 10 [.ptr (H.length + 1) 0 0, .agg [.int .i64 f.t, .slice (bs f.p) f.p.length false]] (H ++ [dfB D, prB (H.length + 1) (s.pre.length + 1) s.np true, imB (s.pre.length + 1) (itL s.pre ++ itq x (mU (H.length + 1) x.U.length) (mS (H.length + 1) x.us.length)), ucB x.U.length (x.U.flatMap usr1), scB x.us, fdB f]) (.bool false) (H ++ [dfB D, prB (H.length + 1) (s.pre.length + 1) s.np true, imB (s.pre.length + 1) (itL s.pre ++ itq x (mU (H.length + 1) x.U.length) (mS (H.length + 1) x.us.length)), ucB x.U.length (x.U.flatMap usr1), scB x.us, fdB f]) → PL Tryz.prog _ _ (pgF H D us j) (pgO H D s.pre x s.np) _ by
        by_cases ht : f.t = 178
        · have ao := accU_ok (H ++ [dfB D]) s.pre x s.np f.p (scB x.us) (fdB f) (mS (H.length + 1) x.us.length) hxI.s hpr (by omega) (by have := hxI.U; omega) (by omega) (fun n hn => .msl (by simp at hn; omega))
          simp only [List.append_assoc, List.cons_append, List.nil_append, List.length_append, List.length_cons, List.length_nil, Nat.zero_add] at ao
          rw [← ht] at ao
          cases hu : usB f.p with
          | false =>
            rw [hu] at ao
            simp only [Bool.false_eq_true, if_false] at ao
            exact hR (by unfold accP; rw [if_pos ht, hc]; dsimp only; rw [hu]; rfl) ao
          | true =>
            rw [hu] at ao
            simp only [if_true] at ao
            rw [stp_user hc ht hu] at ih
            dsimp only at ih
            have F := iqF s.pre x (mU (H.length + 1) (x.U.length + 1)) (mS (H.length + 1) x.us.length) hpr hxI.s
            have eN : ((s.pre.length + 1 : Nat) : Int) - 1 = (s.pre.length : Int) := by omega
            unfold fdB at ao
            refine PL.round ?_; (repeat refine PW.seq ?_); refine PW.rg rfl fun K hK => ?_; simp (maxSteps := 3000000) (disch := omega) only [go_sem, ↓reduceIte, reduceCtorEq, pappend, plen, pgF, pgO, ct]; refine hK _ _ ?_; clear hK K; (repeat refine PW.seq ?_); refine PW.cond (t := _) rfl (fun h => ?_) (fun h => ?_)
            rotate_left
            · cases h
            refine PW.skip ?_; (repeat refine PW.seq ?_); refine PW.block ?_
            (repeat refine PW.seq ?_); refine PW.rg rfl fun K hK => ?_; simp (maxSteps := 3000000) (disch := omega) only [go_sem, ↓reduceIte, reduceCtorEq, pappend, plen, lf, fat]; refine hK _ _ ?_; clear hK K
            (repeat refine PW.seq ?_); refine PW.rg rfl fun K hK => ?_; simp (maxSteps := 3000000) (disch := omega) only [go_sem, ↓reduceIte, reduceCtorEq, pappend, plen]; refine VCx.call (ao) rfl ?_; simp (maxSteps := 3000000) (disch := omega) only [go_sem, ↓reduceIte, reduceCtorEq, pappend, plen]; refine hK _ _ ?_; clear hK K
            (repeat refine PW.seq ?_); refine PW.cond (t := _) rfl (fun h => ?_) (fun h => ?_)
            · cases h
            refine PW.skip ?_
            have hxp := hxI.pad
            (repeat refine PW.seq ?_); refine PW.drawi [H.length + 2] [(37, [0]), (39, [0]), (42, [0]), (43, [0]), (51, [0]), (52, [0])] [] [] mix (by kernel_rfl) (by simp <;> omega) fun K hK => ?_
            simp (maxSteps := 3000000) (disch := omega) only [go_sem, ↓reduceIte, reduceCtorEq, pappend, plen, prB, imB, eN, F.ln, F.p, F.sp, arith]
            refine hK _ _ ?_; clear hK K
            (repeat refine PW.seq ?_); refine PW.rg rfl fun K hK => ?_; simp (maxSteps := 3000000) (disch := omega) only [go_sem, ↓reduceIte, reduceCtorEq, pappend, plen]; refine hK _ _ ?_; clear hK K
            have hd := fun hs => pg_dropO (H := H) (D := D) (pre := s.pre) (x := { x with U := x.U ++ [f.p.take (f.p.length - 1)], pad := x.pad + ((f.nx : Int) - f.to) }) (np := s.np) (fdB f) (usT_fz x.U (f.p.take (f.p.length - 1))) hs
            simp only [List.length_append, List.length_cons, List.length_nil, Nat.zero_add] at hd
            refine PL.at [6, 7, 18, 19, 20] (?_ : PL _ _ _ (pgF H D us (j + 1)) (H ++ [dfB D, prB (H.length + 1) (s.pre.length + 1) s.np true, imB (s.pre.length + 1) (itL s.pre ++ itq { x with U := x.U ++ [f.p.take (f.p.length - 1)], pad := x.pad + ((f.nx : Int) - f.to) } (mU (H.length + 1) (x.U.length + 1)) (mS (H.length + 1) x.us.length)), ucB (x.U.length + 1) (x.U.flatMap usr1 ++ [usT (f.p.take (f.p.length - 1))]), scB x.us, fdB f]) _) rfl rfl
            exact PL.view (Vs.cut (F1 := pgF H D us (j + 1)) (H1 := pgO H D s.pre { x with U := x.U ++ [f.p.take (f.p.length - 1)], pad := x.pad + ((f.nx : Int) - f.to) } s.np) (by rw [pgO_len]; exact Nat.le_add_right _ _) hd (pgF_z (by rw [pgO_len]; omega))) ih
        by_cases hsl1 : 1 ≤ f.t ∧ f.t < 5
        · have ao := accS_ok (H ++ [dfB D]) s.pre x s.np f.t f.p (ucB x.U.length (x.U.flatMap usr1)) (fdB f) (mU (H.length + 1) x.U.length) hsl1 hxI.s hpr (by omega) (by have := hxI.us; omega) (by omega) (fun n hn => .msl (by simp at hn; omega))
          simp only [List.append_assoc, List.cons_append, List.nil_append, List.length_append, List.length_cons, List.length_nil, Nat.zero_add] at ao
          rw [stp_slice hc ht hsl1] at ih
          dsimp only at ih
          have F := iqF s.pre x (mU (H.length + 1) x.U.length) (mS (H.length + 1) (x.us.length + 1)) hpr hxI.s
          have eN : ((s.pre.length + 1 : Nat) : Int) - 1 = (s.pre.length : Int) := by omega
          unfold fdB at ao
          refine PL.round ?_; (repeat refine PW.seq ?_); refine PW.rg rfl fun K hK => ?_; simp (maxSteps := 3000000) (disch := omega) only [go_sem, ↓reduceIte, reduceCtorEq, pappend, plen, pgF, pgO, ct]; refine hK _ _ ?_; clear hK K; (repeat refine PW.seq ?_); refine PW.cond (t := _) rfl (fun h => ?_) (fun h => ?_)
          rotate_left
          · cases h
          refine PW.skip ?_; (repeat refine PW.seq ?_); refine PW.block ?_
          (repeat refine PW.seq ?_); refine PW.rg rfl fun K hK => ?_; simp (maxSteps := 3000000) (disch := omega) only [go_sem, ↓reduceIte, reduceCtorEq, pappend, plen, lf, fat]; refine hK _ _ ?_; clear hK K
          (repeat refine PW.seq ?_); refine PW.rg rfl fun K hK => ?_; simp (maxSteps := 3000000) (disch := omega) only [go_sem, ↓reduceIte, reduceCtorEq, pappend, plen]; refine VCx.call (ao) rfl ?_; simp (maxSteps := 3000000) (disch := omega) only [go_sem, ↓reduceIte, reduceCtorEq, pappend, plen]; refine hK _ _ ?_; clear hK K
          (repeat refine PW.seq ?_); refine PW.cond (t := _) rfl (fun h => ?_) (fun h => ?_)
          · cases h
          refine PW.skip ?_
          have hxp := hxI.pad
          (repeat refine PW.seq ?_); refine PW.drawi [H.length + 2] [(37, [0]), (39, [0]), (42, [0]), (43, [0]), (51, [0]), (52, [0])] [] [] mix (by kernel_rfl) (by simp <;> omega) fun K hK => ?_
          simp (maxSteps := 3000000) (disch := omega) only [go_sem, ↓reduceIte, reduceCtorEq, pappend, plen, prB, imB, eN, F.ln, F.p, F.sp, arith]
          refine hK _ _ ?_; clear hK K
          (repeat refine PW.seq ?_); refine PW.rg rfl fun K hK => ?_; simp (maxSteps := 3000000) (disch := omega) only [go_sem, ↓reduceIte, reduceCtorEq, pappend, plen]; refine hK _ _ ?_; clear hK K
          have hd := fun hs => pg_dropO (H := H) (D := D) (pre := s.pre) (x := { x with us := x.us ++ [(f.t, f.p)], pad := x.pad + ((f.nx : Int) - f.to) }) (np := s.np) (fdB f) (usr_fz x.U) hs
          simp only [List.length_append, List.length_cons, List.length_nil, Nat.zero_add] at hd
          refine PL.at [6, 7, 18, 19, 20] (?_ : PL _ _ _ (pgF H D us (j + 1)) (H ++ [dfB D, prB (H.length + 1) (s.pre.length + 1) s.np true, imB (s.pre.length + 1) (itL s.pre ++ itq { x with us := x.us ++ [(f.t, f.p)], pad := x.pad + ((f.nx : Int) - f.to) } (mU (H.length + 1) x.U.length) (mS (H.length + 1) (x.us.length + 1))), ucB x.U.length (x.U.flatMap usr1), scB (x.us ++ [(f.t, f.p)]), fdB f]) _) rfl rfl
          exact PL.view (Vs.cut (F1 := pgF H D us (j + 1)) (H1 := pgO H D s.pre { x with us := x.us ++ [(f.t, f.p)], pad := x.pad + ((f.nx : Int) - f.to) } s.np) (by rw [pgO_len]; exact Nat.le_add_right _ _) hd (pgF_z (by rw [pgO_len]; omega))) ih
        have hk0 : (bgn f.t f.p).1.k = 0 := Decidable.of_not_not fun h => hx ⟨ht, hsl1, h⟩
        exact hR (by unfold accP; rw [if_neg ht, if_neg hsl1, if_pos hk0]) (accK_ok _ f.t f.p _ hfp ht hsl1 hk0)
      intro hrej ao
      have e2 : pgH H (D ++ [(f.fr, f.to)]) s = pgO H (D ++ [(f.fr, f.to)]) s.pre x s.np := by unfold pgH; rw [hc]
      rw [stp_rej hrej] at ih
      dsimp only at ih
      rw [e2] at ih
      unfold fdB at ao
      refine PL.round ?_; (repeat refine PW.seq ?_); refine PW.rg rfl fun K hK => ?_; simp (maxSteps := 3000000) (disch := omega) only [go_sem, ↓reduceIte, reduceCtorEq, pappend, plen, pgF, pgO, ct]; refine hK _ _ ?_; clear hK K; (repeat refine PW.seq ?_); refine PW.cond (t := _) rfl (fun h => ?_) (fun h => ?_)
      rotate_left
      · cases h
      refine PW.skip ?_; (repeat refine PW.seq ?_); refine PW.block ?_
      (repeat refine PW.seq ?_); refine PW.rg rfl fun K hK => ?_; simp (maxSteps := 3000000) (disch := omega) only [go_sem, ↓reduceIte, reduceCtorEq, pappend, plen, lf, fat]; refine hK _ _ ?_; clear hK K
      (repeat refine PW.seq ?_); refine PW.rg rfl fun K hK => ?_; simp (maxSteps := 3000000) (disch := omega) only [go_sem, ↓reduceIte, reduceCtorEq, pappend, plen]; refine VCx.call (ao) rfl ?_; simp (maxSteps := 3000000) (disch := omega) only [go_sem, ↓reduceIte, reduceCtorEq, pappend, plen]; refine hK _ _ ?_; clear hK K
      (repeat refine PW.seq ?_); refine PW.cond (t := _) rfl (fun h => ?_) (fun h => ?_)
      rotate_left
      · cases h
      (repeat refine PW.seq ?_); refine PW.rg rfl fun K hK => ?_; simp (maxSteps := 3000000) (disch := omega) only [go_sem, ↓reduceIte, reduceCtorEq, pappend, plen, dfB, ld]; refine hK _ _ ?_; clear hK K
      refine PW.exit ?_
      (repeat refine PW.seq ?_); refine PW.rg rfl fun K hK => ?_; simp (maxSteps := 3000000) (disch := omega) only [go_sem, ↓reduceIte, reduceCtorEq, pappend, plen]; refine hK _ _ ?_; clear hK K
      refine PL.at [6, 7, 18, 19, 20] (?_ : PL _ _ _ (pgF H (D ++ [(f.fr, f.to)]) us (j + 1)) (H ++ [dfB (D ++ [(f.fr, f.to)]), prB (H.length + 1) (s.pre.length + 1) s.np true, imB (s.pre.length + 1) (itL s.pre ++ itq x (mU (H.length + 1) x.U.length) (mS (H.length + 1) x.us.length)), ucB x.U.length (x.U.flatMap usr1), scB x.us, fdB f]) _) (by unfold pgF; rw [hdc, hD1]; rfl) (by unfold dfB fdB; rw [hdc])
      exact PL.view (Vs.cut (F1 := pgF H (D ++ [(f.fr, f.to)]) us (j + 1)) (H1 := pgO H (D ++ [(f.fr, f.to)]) s.pre x s.np) (by rw [pgO_len]; exact Nat.le_add_right _ _) (fun hs => pg_dropO (fdB f) (usr_fz x.U) hs) (pgF_z (by rw [pgO_len]; omega))) ih
  intro pre op hit ht hsl1 hk0
  have hpr : ∀ y ∈ pre, SqOk y.s := fun y hy => hItC y (by rw [hit]; exact hy)
  have hpn : pre.length ≤ j := by have := hn; rw [hit] at this; exact this
  have ao := accB_ok (H ++ [dfB D]) pre s.np op f.t f.p (fdB f) hpr (by omega) (by omega) hfp ht hsl1 hk0
  unfold accH at ao
  simp only [List.append_assoc, List.cons_append, List.nil_append, List.length_append, List.length_cons, List.length_nil, Nat.zero_add] at ao
  rw [stp_bgn ht hsl1 hk0, hit] at ih
  unfold bgnS at ih
  obtain ⟨hb1, hb2, hb3, hb4⟩ := hbF
  generalize (bgn f.t f.p).1 = y at *
  generalize (bgn f.t f.p).2 = e at *
  by_cases he : e = 0
  rotate_left
  · rw [if_neg he, decide_eq_false he] at ao
    rw [if_neg he] at ih
    dsimp only at ih
    unfold fdB at ao
    refine PL.round ?_; (repeat refine PW.seq ?_); refine PW.rg rfl fun K hK => ?_; simp (maxSteps := 3000000) (disch := omega) only [go_sem, ↓reduceIte, reduceCtorEq, pappend, plen, pgF, pgC, ct]; refine hK _ _ ?_; clear hK K; (repeat refine PW.seq ?_); refine PW.cond (t := _) rfl (fun h => ?_) (fun h => ?_)
    rotate_left
    · cases h
    refine PW.skip ?_; (repeat refine PW.seq ?_); refine PW.block ?_
    (repeat refine PW.seq ?_); refine PW.rg rfl fun K hK => ?_; simp (maxSteps := 3000000) (disch := omega) only [go_sem, ↓reduceIte, reduceCtorEq, pappend, plen, lf, fat]; refine hK _ _ ?_; clear hK K
    (repeat refine PW.seq ?_); refine PW.rg rfl fun K hK => ?_; simp (maxSteps := 3000000) (disch := omega) only [go_sem, ↓reduceIte, reduceCtorEq, pappend, plen]; refine VCx.call (ao) rfl ?_; simp (maxSteps := 3000000) (disch := omega) only [go_sem, ↓reduceIte, reduceCtorEq, pappend, plen]; refine hK _ _ ?_; clear hK K
    (repeat refine PW.seq ?_); refine PW.cond (t := _) rfl (fun h => ?_) (fun h => ?_)
    rotate_left
    · cases h
    (repeat refine PW.seq ?_); refine PW.rg rfl fun K hK => ?_; simp (maxSteps := 3000000) (disch := omega) only [go_sem, ↓reduceIte, reduceCtorEq, pappend, plen, dfB, ld]; refine hK _ _ ?_; clear hK K
    refine PW.exit ?_
    (repeat refine PW.seq ?_); refine PW.rg rfl fun K hK => ?_; simp (maxSteps := 3000000) (disch := omega) only [go_sem, ↓reduceIte, reduceCtorEq, pappend, plen]; refine hK _ _ ?_; clear hK K
    refine PL.at [6, 7, 18, 19, 20] (?_ : PL _ _ _ (pgF H (D ++ [(f.fr, f.to)]) us (j + 1)) (H ++ [dfB (D ++ [(f.fr, f.to)]), prB (H.length + 1) pre.length s.np false, imB pre.length (itL pre), fdB f]) _) (by unfold pgF; rw [hdc, hD1]; rfl) (by unfold dfB fdB; rw [hdc])
    exact PL.view (Vs.cut (F1 := pgF H (D ++ [(f.fr, f.to)]) us (j + 1)) (H1 := pgC H (D ++ [(f.fr, f.to)]) pre s.np false) (by rw [pgC_len]; exact Nat.le_add_right _ _) (fun hs => pg_dropC (fdB f) hs) (pgF_z (by rw [pgC_len]; omega))) ih
  rw [if_pos he, decide_eq_true he] at ao
  rw [if_pos he] at ih
  have F := iqF pre y nl0 nl0 hpr hb1
  have Fp := F.p
  rw [hb2] at Fp
  have eN : ((pre.length + 1 : Nat) : Int) - 1 = (pre.length : Int) := by omega
  unfold fdB at ao
  obtain ⟨y2, hy2⟩ : ∃ y2 : It, y2 = { y with pad := 0 + ((f.nx : Int) - f.to) } := ⟨_, rfl⟩
  rw [← hy2] at ih
  have F' := iqF pre y2 nl0 nl0 hpr (by rw [hy2]; exact hb1)
  have hU2 : y2.U = [] := by rw [hy2]; exact hb3
  have hSn : y2.us = [] := by rw [hy2]; exact hb4
  obtain ⟨np2, hnp2⟩ : ∃ np2 : Int, np2 = if y.k = 3 then (s.np : Int) + 1 else (s.np : Int) := ⟨_, rfl⟩
  rw [← hnp2] at ao
  suffices hP : PL Tryz.prog _ _ (pgF H D us (j + 1)) (H ++ [dfB D, prB (H.length + 1) (pre.length + 1) np2 (decide (y.k = 3)), imB (pre.length + 1) (itL pre ++ itq y2 nl0 nl0), fdB f]) _ by
    refine PL.round ?_; (repeat refine PW.seq ?_); refine PW.rg rfl fun K hK => ?_; simp (maxSteps := 3000000) (disch := omega) only [go_sem, ↓reduceIte, reduceCtorEq, pappend, plen, pgF, pgC, ct]; refine hK _ _ ?_; clear hK K; (repeat refine PW.seq ?_); refine PW.cond (t := _) rfl (fun h => ?_) (fun h => ?_)
    rotate_left
    · cases h
    refine PW.skip ?_; (repeat refine PW.seq ?_); refine PW.block ?_
    (repeat refine PW.seq ?_); refine PW.rg rfl fun K hK => ?_; simp (maxSteps := 3000000) (disch := omega) only [go_sem, ↓reduceIte, reduceCtorEq, pappend, plen, lf, fat]; refine hK _ _ ?_; clear hK K
    (repeat refine PW.seq ?_); refine PW.rg rfl fun K hK => ?_; simp (maxSteps := 3000000) (disch := omega) only [go_sem, ↓reduceIte, reduceCtorEq, pappend, plen]; refine VCx.call (ao) rfl ?_; simp (maxSteps := 3000000) (disch := omega) only [go_sem, ↓reduceIte, reduceCtorEq, pappend, plen]; refine hK _ _ ?_; clear hK K
    (repeat refine PW.seq ?_); refine PW.cond (t := _) rfl (fun h => ?_) (fun h => ?_)
    · cases h
    refine PW.skip ?_
    (repeat refine PW.seq ?_); refine PW.drawi [H.length + 2] [(37, [0]), (39, [0]), (42, [0]), (43, [0]), (51, [0]), (52, [0])] [] [] mix (by kernel_rfl) (by simp <;> omega) fun K hK => ?_
    simp (maxSteps := 3000000) (disch := omega) only [go_sem, ↓reduceIte, reduceCtorEq, pappend, plen, prB, imB, eN, F.ln, Fp, F.sp, arith]
    refine hK _ _ ?_; clear hK K
    (repeat refine PW.seq ?_); refine PW.rg rfl fun K hK => ?_; simp (maxSteps := 3000000) (disch := omega) only [go_sem, ↓reduceIte, reduceCtorEq, pappend, plen]; refine hK _ _ ?_; clear hK K
    exact PL.at [6, 7, 18, 19, 20] hP rfl (by rw [hy2]; rfl)
  by_cases h3 : y.k = 3
  rotate_left
  · rw [if_neg h3] at ih hnp2
    rw [decide_eq_false h3, hnp2]
    dsimp only at ih
    have hd := fun hs => pg_dropN (H := H) (D := D) (pre := pre) (y := y2) (np := s.np) (op := false) (fdB f) hU2 hSn hs
    exact PL.view (Vs.cut (F1 := pgF H D us (j + 1)) (H1 := pgC H D (pre ++ [y2]) s.np false) (by rw [pgC_len]; exact Nat.le_add_right _ _) hd (pgF_z (by rw [pgC_len]; omega))) ih
  · rw [if_pos h3] at ih hnp2
    rw [decide_eq_true h3, hnp2]
    dsimp only at ih
    have hnl : ∀ n : Nat, Scoped n nl0 := fun n => sl_scoped fun x hx => by cases hx
    refine PL.view (Vs.cut (F1 := pgF H D us (j + 1)) (H1 := H ++ [dfB D, prB (H.length + 1) (pre.length + 1) ((s.np : Int) + 1) true, imB (pre.length + 1) (itL pre ++ itq y2 nl0 nl0)]) (by rw [hl3]; exact Nat.le_add_right _ _) (fun hs => ?_) (pgF_z (by rw [hl3]; omega))) ?_
    · have := CutH.of (A := H) (L := [dfB D, prB (H.length + 1) (pre.length + 1) ((s.np : Int) + 1) true, imB (pre.length + 1) (itL pre ++ itq y2 nl0 nl0)]) (K := [fdB f]) (L1 := [dfB D, prB (H.length + 1) (pre.length + 1) ((s.np : Int) + 1) true, imB (pre.length + 1) (itL pre ++ itq y2 nl0 nl0)]) hs ⟨rfl, rfl, FzC.refl (dc_sc _ _), rfl, rfl, FzC.refl (prB_sc _ _ _ _ _ (by simp)), rfl, rfl, FzC.refl (itP_sc _ _ _ _ _ (hnl _) (hnl _)), trivial⟩
      rwa [List.append_assoc] at this
    refine PL.view (Vs.ghostH (id := H.length + 2) (j := pre.length * 148 + 145) (k := imB (pre.length + 1) (itL pre ++ itq y2 nl0 nl0)) 22 1 (apn H _ 2) F'.u) ?_
    have F2 := iqF pre y2 (mU (H.length + 1) 0) nl0 hpr (by rw [hy2]; exact hb1)
    refine PL.eq rfl (show _ = H ++ [dfB D, prB (H.length + 1) (pre.length + 1) ((s.np : Int) + 1) true, imB (pre.length + 1) (itL pre ++ itq y2 (mU (H.length + 1) 0) nl0), ⟨22, 0, []⟩] from by
      rw [hs2, List.append_assoc, hl3]
      have := F'.su (mU (H.length + 1) 0)
      unfold imB
      dsimp only
      rw [← this]; rfl) ?_
    refine PL.view (Vs.ghostH (id := H.length + 2) (j := pre.length * 148 + 146) (k := imB (pre.length + 1) (itL pre ++ itq y2 (mU (H.length + 1) 0) nl0)) 41 2 (apn H _ 2) F2.s) ?_
    refine PL.at [6, 7, 18, 19, 20] ih rfl ?_
    rw [hs2, List.append_assoc, hl4]
    have := F2.ss (mS (H.length + 1) 0)
    show _ = pgO H D pre y2 (s.np + 1)
    unfold pgO
    rw [hU2, hSn]
    show _ = H ++ [dfB D, prB (H.length + 1) (pre.length + 1) ((s.np + 1 : Nat) : Int) true, imB (pre.length + 1) (itL pre ++ itq y2 (mU (H.length + 1) 0) (mS (H.length + 1) 0)), ⟨22, 0, []⟩, ⟨41, 0, []⟩]
    rw [← this]; rfl

end Go.Proofs.YtbhdollgohgkgaaGreatDoor.Sc
