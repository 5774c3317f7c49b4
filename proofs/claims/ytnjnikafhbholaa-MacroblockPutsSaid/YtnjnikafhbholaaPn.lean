/-
  Contracts of chapter 31: plan.Copyable.
-/
import Derived.Test.YtnjnikafhbholaaBs
import Derived.Test.YtnjnikafhbholaaPl
namespace Go.Proofs.Ytnjnikafhbholaa.Sc
set_option linter.all false
set_option linter.unusedVariables false
set_option linter.unusedSimpArgs false
open Pm Ty Pl Go.RowKit

/-- Ways that meet again, where the step is already parted. -/
theorem _root_.Go.Proofs.Ytnjnikafhbholaa.Pm.PW.meet {P : Program} {E : Env} {Q : Exit → Fr → Heap → Prop} {F : Fr} {H : Heap} {x y : Code} (ks : List Nat) (F1 : Fr) (H1 : Heap) (h : PW P E x F H (thenQ (fun F' H' => kp ks F' = F1 ∧ H' = H1) Q)) (hj : PW P E y F1 H1 Q) : PW P E x F H (thenQ (fun F' H' => PW P E y F' H' Q) Q) :=
  h.mono fun e F' H' hq => by
    cases e with
    | normal => exact PW.keep ks (by rw [hq.1, hq.2]; exact hj)
    | _ => exact hq
/-- A set of frames as flags. -/
def rg (n : Nat) (g : Nat → Bool) : List Bool := (List.range n).map g
theorem rg_len (n : Nat) (g : Nat → Bool) : (rg n g).length = n := by simp [rg]
theorem rg_get (n : Nat) (g : Nat → Bool) (i : Nat) (h : i < n) : flagAt (rg n g) i = g i := by simp [flagAt, rg, h]
theorem rg_cell (n : Nat) (g : Nat → Bool) (i : Nat) (h : i < n) : (fs (rg n g))[i]? = some (.bool (g i)) := by rw [fs_get _ _ (by rw [rg_len]; exact h), rg_get n g i h]
theorem rg_ext (n : Nat) {g g' : Nat → Bool} (h : ∀ i, i < n → g i = g' i) : rg n g = rg n g' := List.map_congr_left fun i hi => h i (List.mem_range.1 hi)
theorem rg_set (n : Nat) (g : Nat → Bool) (i : Nat) (v : Bool) : (fs (rg n g)).set i (.bool v) = fs (rg n fun j => if j = i then v else g j) := by
  rw [fs_set]
  congr 1
  apply List.ext_getElem?
  intro j
  rw [List.getElem?_set]
  by_cases hj : j < n
  · by_cases e : i = j
    · subst e; simp [rg, hj]
    · simp [rg, hj, e, Ne.symm e]
  · have h1 : (rg n fun j => if j = i then v else g j)[j]? = none := List.getElem?_eq_none (by rw [rg_len]; omega)
    have h2 : (rg n g)[j]? = none := List.getElem?_eq_none (by rw [rg_len]; omega)
    rw [h1, h2]
    split
    · rw [if_neg (by rw [rg_len]; omega)]
    · rfl
theorem rg_false (n : Nat) : fs (rg n fun _ => false) = reps n [.bool false] := by
  have h1 : reps n [PV.bool false] = List.replicate n (.bool false) := by
    induction n with
    | zero => rfl
    | succ n ih => rw [List.replicate_succ, ← ih]; simp [reps, List.replicate_succ]
  rw [h1]
  apply List.ext_getElem?
  intro j
  by_cases hj : j < n
  · simp [fs, rg, hj]
  · simp [fs, rg, hj]
theorem intAt_ty (t : List Int) (k : Nat) : intAt t k = ty t k := rfl

theorem arr_past (t : List Int) (i j : Nat) (h1 : lst t i ≤ j) (h2 : j < i) : arr t i j = false :=
  arr_b0 t j (lst_b t i j h1 h2) i (fun m h3 h4 => lst_b t i m (by omega) h4)
theorem arr_last (t : List Int) (i : Nat) (h : 0 < lst t i) : arr t i (lst t i - 1) = kn t i := by
  have h1 := lst_nb t i h
  have h2 := lst_le t i
  rw [arr_nb t _ h1 i (by omega), kn_lst t i, if_neg (by omega), show lst t i - 1 + 1 = lst t i by omega]
theorem kn_zero (t : List Int) (i : Nat) (h : lst t i = 0) : kn t i = false := by rw [kn_lst t i, if_pos h]

theorem copy_ok (t : List Int) (f : Bool) (H : Heap) (hl : t.length ≤ 1000000) : CallOk Try.prog 36 [.slice (is t) t.length f] H (.slice (fs (rg t.length (arr t t.length))) t.length false) H := by
  refine CallOk.body (F0 := [(0, .slice (is t) t.length f)]) Try.func36 rfl Try.ntmps36 Try.results36 rfl (by kernel_rfl) rfl ?_
  (repeat refine PW.seq ?_); refine PW.rg rfl fun K hK => ?_; simp (maxSteps := 3000000) (disch := omega) only [go_sem, ↓reduceIte, reduceCtorEq, pappend, plen]; refine hK _ _ ?_; clear hK K
  refine PW.scope ?_
  (repeat refine PW.seq ?_); refine PW.rg rfl fun K hK => ?_; simp (maxSteps := 3000000) (disch := omega) only [go_sem, ↓reduceIte, reduceCtorEq, pappend, plen]; refine hK _ _ ?_; clear hK K; (repeat refine PW.seq ?_); refine PW.rg rfl fun K hK => ?_; simp (maxSteps := 3000000) (disch := omega) only [go_sem, ↓reduceIte, reduceCtorEq, pappend, plen]; refine hK _ _ ?_; clear hK K
  (repeat refine PW.seq ?_); refine PW.label ?_
  (repeat refine PW.seq ?_); refine PW.rg rfl fun K hK => ?_; simp (maxSteps := 3000000) (disch := omega) only [go_sem, ↓reduceIte, reduceCtorEq, pappend, plen]; refine hK _ _ ?_; clear hK K
  (repeat refine PW.seq ?_); refine PW.block (PW.loop ?_)
  suffices hloop : ∀ i, i ≤ t.length → PL Try.prog _ _ [(3, .msl H.length 0 0 t.length 1 true), (4, .int .i64 ((lst t i : Int) - 1)), (13, .slice (is t) t.length f), (14, .int .i64 (t.length : Int)), (15, .int .i64 (i : Int))] (H ++ [⟨4, 0, fs (rg t.length (arr t i))⟩]) _ by
    exact PL.at [3, 4, 13, 14, 15] (hloop 0 (Nat.zero_le _)) rfl (by rw [show arr t 0 = fun _ => false from rfl, rg_false]; rfl)
  intro i hi
  induction hm : t.length - i using Nat.strongRecOn generalizing i with
  | _ m ih =>
    refine PL.round ?_; (repeat refine PW.seq ?_); refine PW.rg rfl fun K hK => ?_; simp (maxSteps := 3000000) (disch := omega) only [go_sem, ↓reduceIte, reduceCtorEq, pappend, plen]; refine hK _ _ ?_; clear hK K
    (repeat refine PW.seq ?_); refine PW.cond (t := _) rfl (fun h => ?_) (fun h => ?_)
    · have h4 : i < t.length := by have := of_decide_eq_true h; omega
      have hll := lst_le t i
      have hnext := ih (t.length - (i + 1)) (by omega) (i + 1) (by omega) rfl
      refine PW.skip ?_
      refine PW.to [3, 4, 13, 14, 15] [(3, .msl H.length 0 0 t.length 1 true), (4, .int .i64 ((lst t (i + 1) : Int) - 1)), (13, .slice (is t) t.length f), (14, .int .i64 (t.length : Int)), (15, .int .i64 (i : Int))] (H ++ [⟨4, 0, fs (rg t.length (arr t (i + 1)))⟩]) ?_ ?_
      rotate_left
      · (repeat refine PW.seq ?_); refine PW.rg rfl fun K hK => ?_; simp (maxSteps := 3000000) (disch := omega) only [go_sem, ↓reduceIte, reduceCtorEq, pappend, plen]; refine hK _ _ ?_; clear hK K
        exact PL.at [3, 4, 13, 14, 15] hnext rfl rfl
      (repeat refine PW.seq ?_); refine PW.block ?_
      (repeat refine PW.seq ?_); refine PW.rg rfl fun K hK => ?_; simp (maxSteps := 3000000) (disch := omega) only [go_sem, ↓reduceIte, reduceCtorEq, pappend, plen, is_get, is_len, intAt_ty]; refine hK _ _ ?_; clear hK K
      (repeat refine PW.seq ?_); refine PW.rg rfl fun K hK => ?_; simp (maxSteps := 3000000) (disch := omega) only [go_sem, ↓reduceIte, reduceCtorEq, pappend, plen]; refine hK _ _ ?_; clear hK K
      (repeat refine PW.seq ?_); refine PW.cond (t := _) rfl (fun h => ?_) (fun h => ?_)
      · have h3 : ty t i = 3 := by simpa using h
        refine PW.exit ?_
        have e1 : lst t (i + 1) = lst t i := by simp [lst, h3]
        have e2 : arr t (i + 1) = arr t i := by funext j; simp [arr, h3]
        rw [e1, e2]
        exact ⟨rfl, rfl⟩
      have h3 : ty t i ≠ 3 := by simpa using h
      have e1 : lst t (i + 1) = i + 1 := by simp [lst, h3]
      refine PW.skip ?_
      (repeat refine PW.seq ?_); refine PW.rg rfl fun K hK => ?_; simp (maxSteps := 3000000) (disch := omega) only [go_sem, ↓reduceIte, reduceCtorEq, pappend, plen]; refine hK _ _ ?_; clear hK K; (repeat refine PW.seq ?_); refine PW.rg rfl fun K hK => ?_; simp (maxSteps := 3000000) (disch := omega) only [go_sem, ↓reduceIte, reduceCtorEq, pappend, plen]; refine hK _ _ ?_; clear hK K
      (repeat refine PW.seq ?_)
      refine PW.rgv (P := Try.prog) [3, 4, 5, 6, 7, 13, 14, 15] 8 (.bool (kn t i)) ?_ ?_ ?_
      · rfl
      · rcases Nat.eq_zero_or_pos (lst t i) with h0 | h0
        · have hk0 := kn_zero t i h0
          simp (maxSteps := 3000000) (disch := omega) only [go_sem, ↓reduceIte, reduceCtorEq, pappend, plen, h0]
          (repeat' ((first | refine VO_cond (fun h => ?_) (fun h => ?_) | refine VOd_cond (fun h => ?_) (fun h => ?_) | refine VOg_cond (fun h => ?_) (fun h => ?_) | refine VOh_cond (fun h => ?_) (fun h => ?_) | refine VOi_cond (fun h => ?_) (fun h => ?_) | refine And.intro (fun h => ?_) (fun h => ?_)) <;> (try simp only [Bool.not_eq_true', Bool.not_eq_false', decide_eq_true_eq, decide_eq_false_iff_not] at h) <;> simp (maxSteps := 3000000) (disch := omega) only [go_sem, ↓reduceIte, reduceCtorEq, pappend, plen, h]))
          all_goals (simp_all [slot, Nat.beq] <;> first | rfl | omega | (rw [Bool.eq_iff_iff]; simp; done) | (rw [Bool.eq_iff_iff]; simp; omega))
        · have hk0 := arr_last t i h0
          have e3 : (lst t i : Int) - 1 = ((lst t i - 1 : Nat) : Int) := by omega
          simp (maxSteps := 3000000) (disch := omega) only [go_sem, ↓reduceIte, reduceCtorEq, pappend, plen, e3, rg_cell, rg_len, fs_len, hk0]
          (repeat' ((first | refine VO_cond (fun h => ?_) (fun h => ?_) | refine VOd_cond (fun h => ?_) (fun h => ?_) | refine VOg_cond (fun h => ?_) (fun h => ?_) | refine VOh_cond (fun h => ?_) (fun h => ?_) | refine VOi_cond (fun h => ?_) (fun h => ?_) | refine And.intro (fun h => ?_) (fun h => ?_)) <;> (try simp only [Bool.not_eq_true', Bool.not_eq_false', decide_eq_true_eq, decide_eq_false_iff_not] at h) <;> simp (maxSteps := 3000000) (disch := omega) only [go_sem, ↓reduceIte, reduceCtorEq, pappend, plen, e3, rg_cell, rg_len, fs_len, hk0, h]))
          all_goals (simp_all [slot, Nat.beq] <;> first | rfl | omega | (rw [Bool.eq_iff_iff]; simp; done) | (rw [Bool.eq_iff_iff]; simp; omega))
      have hv : kn t (i + 1) = (ty t i == 1 || (ty t i == 2 && kn t i)) := by simp [kn, h3]
      refine PW.to [3, 4, 5, 7, 8, 13, 14, 15] [(3, .msl H.length 0 0 t.length 1 true), (4, .int .i64 (i : Int)), (5, .int .i64 (i : Int)), (7, .int .i64 ((lst t i : Int) - 1)), (8, .bool (kn t i)), (13, .slice (is t) t.length f), (14, .int .i64 (t.length : Int)), (15, .int .i64 (i : Int))] (H ++ [⟨4, 0, fs (rg t.length fun j => if j = i then kn t (i + 1) else arr t i j)⟩]) ?_ ?_
      · (repeat refine PW.seq ?_); refine PW.rg rfl fun K hK => ?_
        simp (maxSteps := 3000000) (disch := omega) only [go_sem, ↓reduceIte, reduceCtorEq, pappend, plen, rg_len, fs_len, rg_set]
        (repeat' ((first | refine VO_cond (fun h => ?_) (fun h => ?_) | refine VOd_cond (fun h => ?_) (fun h => ?_) | refine VOg_cond (fun h => ?_) (fun h => ?_) | refine VOh_cond (fun h => ?_) (fun h => ?_) | refine VOi_cond (fun h => ?_) (fun h => ?_) | refine And.intro (fun h => ?_) (fun h => ?_)) <;> (try simp only [Bool.not_eq_true', Bool.not_eq_false', decide_eq_true_eq, decide_eq_false_iff_not] at h) <;> simp (maxSteps := 3000000) (disch := omega) only [go_sem, ↓reduceIte, reduceCtorEq, pappend, plen, rg_len, fs_len, rg_set, h]))
        all_goals (refine hK _ _ ⟨rfl, ?_⟩; clear hK K ih hnext; refine congrArg (fun v => H ++ [⟨4, 0, fs (rg t.length fun j => if j = i then v else arr t i j)⟩]) ?_; rw [hv]; simp_all)
      have e4 : (lst t i : Int) - 1 + 1 = (lst t i : Int) := by omega
      (repeat refine PW.seq ?_); refine PW.rg rfl fun K hK => ?_; simp (maxSteps := 3000000) (disch := omega) only [go_sem, ↓reduceIte, reduceCtorEq, pappend, plen, e4]; refine hK _ _ ?_; clear hK K
      (repeat refine PW.seq ?_); refine PW.block (PW.loop ?_)
      clear ih hnext
      suffices hloop : ∀ k, lst t i ≤ k → k ≤ i → (lst t i < k → kn t i = true ∧ kn t (i + 1) = true) → PL Try.prog _ _ [(3, .msl H.length 0 0 t.length 1 true), (4, .int .i64 (i : Int)), (5, .int .i64 (i : Int)), (8, .bool (kn t i)), (9, .int .i64 (k : Int)), (13, .slice (is t) t.length f), (14, .int .i64 (t.length : Int)), (15, .int .i64 (i : Int))] (H ++ [⟨4, 0, fs (rg t.length fun j => if j = i then kn t (i + 1) else if lst t i ≤ j ∧ j < k then true else arr t i j)⟩]) _ by
        refine PL.at [3, 4, 5, 8, 9, 13, 14, 15] (hloop (lst t i) (Nat.le_refl _) (lst_le t i) (fun h => by omega)) rfl ?_
        rw [rg_ext t.length (g := fun j => if j = i then kn t (i + 1) else arr t i j) (g' := fun j => if j = i then kn t (i + 1) else if lst t i ≤ j ∧ j < lst t i then true else arr t i j) (fun j hj => by
          have : ¬ (lst t i ≤ j ∧ j < lst t i) := by omega
          simp only [if_neg this])]
      intro k hk1 hk2 hk3
      induction hm2 : i - k using Nat.strongRecOn generalizing k with
      | _ m2 ih =>
        refine PL.round ?_; (repeat refine PW.seq ?_); refine PW.rg rfl fun K hK => ?_; simp (maxSteps := 3000000) (disch := omega) only [go_sem, ↓reduceIte, reduceCtorEq, pappend, plen]; refine hK _ _ ?_; clear hK K
        (repeat refine PW.seq ?_); refine PW.cond (t := _) rfl (fun h => ?_) (fun h => ?_)
        · have h5 : k < i := by have := of_decide_eq_true h; omega
          have hii : (fs (rg t.length fun j => if j = i then kn t (i + 1) else if lst t i ≤ j ∧ j < k then true else arr t i j))[i]? = some (.bool (kn t (i + 1))) := by rw [rg_cell _ _ _ h4]; simp
          have hset := rg_set t.length (fun j => if j = i then kn t (i + 1) else if lst t i ≤ j ∧ j < k then true else arr t i j) k true
          refine PW.skip ?_
          (repeat refine PW.seq ?_); refine PW.block ?_
          (repeat refine PW.seq ?_)
          refine PW.rgv (P := Try.prog) [3, 4, 5, 8, 9, 13, 14, 15] 59 (.bool (!(kn t i && kn t (i + 1)))) ?_ ?_ ?_
          · rfl
          · cases hkn : kn t i
            · simp (maxSteps := 3000000) (disch := omega) only [go_sem, ↓reduceIte, reduceCtorEq, pappend, plen, hkn]
              (repeat' ((first | refine VO_cond (fun h => ?_) (fun h => ?_) | refine VOd_cond (fun h => ?_) (fun h => ?_) | refine VOg_cond (fun h => ?_) (fun h => ?_) | refine VOh_cond (fun h => ?_) (fun h => ?_) | refine VOi_cond (fun h => ?_) (fun h => ?_) | refine And.intro (fun h => ?_) (fun h => ?_)) <;> (try simp only [Bool.not_eq_true', Bool.not_eq_false', decide_eq_true_eq, decide_eq_false_iff_not] at h) <;> simp (maxSteps := 3000000) (disch := omega) only [go_sem, ↓reduceIte, reduceCtorEq, pappend, plen, hkn, h]))
              all_goals (simp_all [slot, Nat.beq] <;> first | rfl | omega | (rw [Bool.eq_iff_iff]; simp; done) | (rw [Bool.eq_iff_iff]; simp; omega))
            · simp (maxSteps := 3000000) (disch := omega) only [go_sem, ↓reduceIte, reduceCtorEq, pappend, plen, hkn, hii, rg_len, fs_len]
              (repeat' ((first | refine VO_cond (fun h => ?_) (fun h => ?_) | refine VOd_cond (fun h => ?_) (fun h => ?_) | refine VOg_cond (fun h => ?_) (fun h => ?_) | refine VOh_cond (fun h => ?_) (fun h => ?_) | refine VOi_cond (fun h => ?_) (fun h => ?_) | refine And.intro (fun h => ?_) (fun h => ?_)) <;> (try simp only [Bool.not_eq_true', Bool.not_eq_false', decide_eq_true_eq, decide_eq_false_iff_not] at h) <;> simp (maxSteps := 3000000) (disch := omega) only [go_sem, ↓reduceIte, reduceCtorEq, pappend, plen, hkn, hii, rg_len, fs_len, h]))
              all_goals (simp_all [slot, Nat.beq] <;> first | rfl | omega | (rw [Bool.eq_iff_iff]; simp; done) | (rw [Bool.eq_iff_iff]; simp; omega))
          (repeat refine PW.seq ?_); refine PW.cond (t := _) rfl (fun h => ?_) (fun h => ?_)
          · have hno : (kn t i && kn t (i + 1)) = false := by cases h1 : kn t i <;> cases h2 : kn t (i + 1) <;> simp_all
            refine PW.exit ?_
            have hk : k = lst t i := by
              rcases Nat.eq_or_lt_of_le hk1 with e | e
              · exact e.symm
              · have := hk3 e; rw [this.1, this.2] at hno; cases hno
            subst hk
            refine ⟨?_, ?_⟩
            · rw [e1, show ((i + 1 : Nat) : Int) - 1 = (i : Int) by omega]; rfl
            · rw [rg_ext t.length (g' := arr t (i + 1)) (fun j hj => by
                simp only [arr, if_neg h3]
                by_cases ej : j = i
                · simp [ej]
                · rw [if_neg ej, if_neg ej]
                  rw [if_neg (by omega)]
                  split
                  · rename_i hr; rw [arr_past t i j hr.1 hr.2, hno]
                  · rfl)]
          · have hyes : kn t i = true ∧ kn t (i + 1) = true := by simpa using h
            refine PW.skip ?_
            (repeat refine PW.seq ?_); refine PW.rg rfl fun K hK => ?_; simp (maxSteps := 3000000) (disch := omega) only [go_sem, ↓reduceIte, reduceCtorEq, pappend, plen, rg_len, fs_len, hset]; refine hK _ _ ?_; clear hK K
            (repeat refine PW.seq ?_); refine PW.rg rfl fun K hK => ?_; simp (maxSteps := 3000000) (disch := omega) only [go_sem, ↓reduceIte, reduceCtorEq, pappend, plen]; refine hK _ _ ?_; clear hK K
            refine PL.at [3, 4, 5, 8, 9, 13, 14, 15] (ih (i - (k + 1)) (by omega) (k + 1) (by omega) (by omega) (fun _ => hyes) rfl) rfl ?_
            rw [rg_ext t.length (g' := fun j => if j = i then kn t (i + 1) else if lst t i ≤ j ∧ j < k + 1 then true else arr t i j) (fun j hj => by
              by_cases ej : j = k
              · subst ej
                rw [if_pos rfl, if_neg (by omega), if_pos (by omega)]
              · rw [if_neg ej]
                by_cases ei : j = i
                · simp [ei]
                · rw [if_neg ei, if_neg ei]
                  by_cases hr : lst t i ≤ j ∧ j < k
                  · rw [if_pos hr, if_pos (by omega)]
                  · rw [if_neg hr, if_neg (by omega)])]
        · have h5 : k = i := by have := of_decide_eq_false h; omega
          subst h5
          refine PW.exit ?_
          refine ⟨?_, ?_⟩
          · rw [e1, show ((k + 1 : Nat) : Int) - 1 = (k : Int) by omega]; rfl
          · rw [rg_ext t.length (g' := arr t (k + 1)) (fun j hj => by
              simp only [arr, if_neg h3]
              by_cases ej : j = k
              · simp [ej]
              · rw [if_neg ej, if_neg ej]
                split
                · rename_i hr; have := hk3 (by omega); rw [this.1, this.2]; rfl
                · rfl)]
    · have h4 : i = t.length := by have := of_decide_eq_false h; omega
      subst h4
      refine PW.exit ?_
      (repeat refine PW.seq ?_); refine PW.rg rfl fun K hK => ?_; simp (maxSteps := 3000000) (disch := omega) only [go_sem, ↓reduceIte, reduceCtorEq, pappend, plen]; refine hK _ _ ?_; clear hK K
      refine PW.ret ⟨_, rfl, ?_⟩
      exact Fin.base (Fz.mslC (e := 4) (xs := fs (rg t.length (arr t t.length))) (Nat.le_refl _) (by simp) (by rw [fs_len, rg_len]; omega) (FzC.refl (fs_scoped _ _)))

end Go.Proofs.Ytnjnikafhbholaa.Sc
