/-
  Contracts of the reference of chapter 31: before, after, kept, Closed.
-/
import Derived.Test.YtnjnikafhbholaaPn
namespace Go.Proofs.Ytnjnikafhbholaa.Sc
set_option linter.all false
set_option linter.unusedVariables false
set_option linter.unusedSimpArgs false
open Pm Ty Pl Go.RowKit

theorem lst_zero (t : List Int) : lst t 0 = 0 := rfl
theorem lst_b1 (t : List Int) (m : Nat) (h : ty t m = 3) : lst t (m + 1) = lst t m := by simp [lst, h]
theorem lst_n1 (t : List Int) (m : Nat) (h : ty t m ≠ 3) : lst t (m + 1) = m + 1 := by simp [lst, h]
theorem nb_step (t : List Int) (n j : Nat) (h1 : j < n) (h2 : ty t j = 3) : nb t n j = nb t n (j + 1) := by
  unfold nb
  rw [show n - j = (n - (j + 1)) + 1 by omega]
  simp only [nbF]
  rw [if_pos ⟨h1, h2⟩]
theorem nb_stop (t : List Int) (n j : Nat) (h : ¬ (j < n ∧ ty t j = 3)) : nb t n j = j := by
  unfold nb
  cases hn : n - j with
  | zero => rfl
  | succ f => simp only [nbF]; rw [if_neg h]

theorem before_ref (t : List Int) (k : Nat) (f : Bool) (H : Heap) (hl : t.length ≤ 1000000) (hk : k < t.length) : CallOk Try.prog 125 [.slice (is t) t.length f, .int .i64 (k : Int)] H (.int .i64 ((lst t k : Int) - 1)) H := by
  refine CallOk.body (F0 := [(0, .slice (is t) t.length f), (1, .int .i64 (k : Int))]) Try.func125 rfl Try.ntmps125 Try.results125 rfl (by kernel_rfl) rfl ?_
  (repeat refine PW.seq ?_); refine PW.rg rfl fun K hK => ?_; simp (disch := omega) only [go_sem, ↓reduceIte, reduceCtorEq, pappend, plen]; refine hK _ _ ?_; clear hK K; (repeat refine PW.seq ?_); refine PW.rg rfl fun K hK => ?_; simp (disch := omega) only [go_sem, ↓reduceIte, reduceCtorEq, pappend, plen]; refine hK _ _ ?_; clear hK K
  (repeat refine PW.seq ?_); refine PW.block (PW.loop ?_)
  suffices hloop : ∀ (m : Nat), m ≤ k → lst t m = lst t k → PL Try.prog _ _ [(0, .slice (is t) t.length f), (1, .int .i64 ((m : Int) - 1))] H _ by
    exact PL.at [0, 1] (hloop k (Nat.le_refl _) rfl) rfl rfl
  intro m hm hlm
  induction m using Nat.strongRecOn with
  | _ m ih =>
    refine PL.round ?_
    (repeat refine PW.seq ?_)
    refine PW.rgv (P := Try.prog) [0, 1] 15 (.bool (decide (0 < m ∧ ty t (m - 1) = 3))) ?_ ?_ ?_
    · rfl
    · rcases Nat.eq_zero_or_pos m with h0 | h0
      · subst h0
        simp (disch := omega) only [go_sem, ↓reduceIte, reduceCtorEq, pappend, plen]
        (repeat' ((first | refine VO_cond (fun h => ?_) (fun h => ?_) | refine VOd_cond (fun h => ?_) (fun h => ?_) | refine And.intro (fun h => ?_) (fun h => ?_)) <;> (try simp only [Bool.not_eq_true', Bool.not_eq_false', decide_eq_true_eq, decide_eq_false_iff_not] at h) <;> simp (disch := omega) only [go_sem, ↓reduceIte, reduceCtorEq, pappend, plen, h]))
        all_goals (simp_all [slot, Nat.beq] <;> first | rfl | omega | (rw [Bool.eq_iff_iff]; simp; done) | (rw [Bool.eq_iff_iff]; simp; omega))
      · have e : (m : Int) - 1 = ((m - 1 : Nat) : Int) := by omega
        simp (disch := omega) only [go_sem, ↓reduceIte, reduceCtorEq, pappend, plen, e, is_get, is_len, intAt_ty]
        (repeat' ((first | refine VO_cond (fun h => ?_) (fun h => ?_) | refine VOd_cond (fun h => ?_) (fun h => ?_) | refine And.intro (fun h => ?_) (fun h => ?_)) <;> (try simp only [Bool.not_eq_true', Bool.not_eq_false', decide_eq_true_eq, decide_eq_false_iff_not] at h) <;> simp (disch := omega) only [go_sem, ↓reduceIte, reduceCtorEq, pappend, plen, e, is_get, is_len, intAt_ty, h]))
        all_goals (simp_all [slot, Nat.beq] <;> first | rfl | omega | (rw [Bool.eq_iff_iff]; simp; done) | (rw [Bool.eq_iff_iff]; simp; omega))
    (repeat refine PW.seq ?_); refine PW.cond (t := _) rfl (fun h => ?_) (fun h => ?_)
    · have h5 : 0 < m ∧ ty t (m - 1) = 3 := of_decide_eq_true h
      have h6 := lst_b1 t (m - 1) h5.2
      rw [show m - 1 + 1 = m by omega] at h6
      refine PW.skip ?_; (repeat refine PW.seq ?_); refine PW.block ?_
      (repeat refine PW.seq ?_); refine PW.rg rfl fun K hK => ?_; simp (disch := omega) only [go_sem, ↓reduceIte, reduceCtorEq, pappend, plen]; refine hK _ _ ?_; clear hK K
      refine PL.at [0, 1] (ih (m - 1) (by omega) (by omega) (by omega)) ?_ rfl
      rw [show ((m - 1 : Nat) : Int) - 1 = (m : Int) - 1 - 1 by omega]; rfl
    · have h5 : ¬ (0 < m ∧ ty t (m - 1) = 3) := of_decide_eq_false h
      refine PW.exit ?_
      have e : lst t k = m := by
        rw [← hlm]
        rcases Nat.eq_zero_or_pos m with h0 | h0
        · subst h0; rfl
        · have := lst_n1 t (m - 1) (fun e => h5 ⟨h0, e⟩)
          rwa [show m - 1 + 1 = m by omega] at this
      (repeat refine PW.seq ?_); refine PW.rg rfl fun K hK => ?_; simp (disch := omega) only [go_sem, ↓reduceIte, reduceCtorEq, pappend, plen]; refine hK _ _ ?_; clear hK K
      refine PW.ret ⟨_, rfl, ?_⟩
      rw [e]
      exact Fin.now

theorem after_ref (t : List Int) (k : Nat) (f : Bool) (H : Heap) (hl : t.length ≤ 1000000) (hk : k < t.length) : CallOk Try.prog 126 [.slice (is t) t.length f, .int .i64 (k : Int)] H (.int .i64 (if nb t t.length (k + 1) < t.length then (nb t t.length (k + 1) : Int) else -1)) H := by
  refine CallOk.body (F0 := [(0, .slice (is t) t.length f), (1, .int .i64 (k : Int))]) Try.func126 rfl Try.ntmps126 Try.results126 rfl (by kernel_rfl) rfl ?_
  (repeat refine PW.seq ?_); refine PW.rg rfl fun K hK => ?_; simp (disch := omega) only [go_sem, ↓reduceIte, reduceCtorEq, pappend, plen]; refine hK _ _ ?_; clear hK K; (repeat refine PW.seq ?_); refine PW.rg rfl fun K hK => ?_; simp (disch := omega) only [go_sem, ↓reduceIte, reduceCtorEq, pappend, plen]; refine hK _ _ ?_; clear hK K
  (repeat refine PW.seq ?_); refine PW.block (PW.loop ?_)
  suffices hloop : ∀ (m : Nat), m ≤ t.length → nb t t.length m = nb t t.length (k + 1) → PL Try.prog _ _ [(0, .slice (is t) t.length f), (1, .int .i64 (m : Int))] H _ by
    exact PL.at [0, 1] (hloop (k + 1) (by omega) rfl) rfl rfl
  intro m hm hlm
  induction hd : t.length - m using Nat.strongRecOn generalizing m with
  | _ d ih =>
    refine PL.round ?_
    (repeat refine PW.seq ?_)
    refine PW.rgv (P := Try.prog) [0, 1] 17 (.bool (decide (m < t.length ∧ ty t m = 3))) ?_ ?_ ?_
    · rfl
    · simp (disch := omega) only [go_sem, ↓reduceIte, reduceCtorEq, pappend, plen]
      (repeat' ((first | refine VO_cond (fun h => ?_) (fun h => ?_) | refine VOd_cond (fun h => ?_) (fun h => ?_) | refine And.intro (fun h => ?_) (fun h => ?_)) <;> (try simp only [Bool.not_eq_true', Bool.not_eq_false', decide_eq_true_eq, decide_eq_false_iff_not] at h) <;> simp (disch := omega) only [go_sem, ↓reduceIte, reduceCtorEq, pappend, plen, is_get, is_len, intAt_ty, h]))
      all_goals (simp_all [slot, Nat.beq] <;> first | rfl | omega | (rw [Bool.eq_iff_iff]; simp; done) | (rw [Bool.eq_iff_iff]; simp; omega))
    (repeat refine PW.seq ?_); refine PW.cond (t := _) rfl (fun h => ?_) (fun h => ?_)
    · have h5 : m < t.length ∧ ty t m = 3 := of_decide_eq_true h
      refine PW.skip ?_; (repeat refine PW.seq ?_); refine PW.block ?_
      (repeat refine PW.seq ?_); refine PW.rg rfl fun K hK => ?_; simp (disch := omega) only [go_sem, ↓reduceIte, reduceCtorEq, pappend, plen]; refine hK _ _ ?_; clear hK K
      exact PL.at [0, 1] (ih (t.length - (m + 1)) (by omega) (m + 1) (by omega) (by rw [← nb_step t _ m h5.1 h5.2]; exact hlm) rfl) rfl rfl
    · have h5 : ¬ (m < t.length ∧ ty t m = 3) := of_decide_eq_false h
      refine PW.exit ?_
      rw [← hlm, nb_stop t _ m h5]
      (repeat refine PW.seq ?_); refine PW.rg rfl fun K hK => ?_; simp (disch := omega) only [go_sem, ↓reduceIte, reduceCtorEq, pappend, plen]; refine hK _ _ ?_; clear hK K
      (repeat refine PW.seq ?_); refine PW.cond (t := _) rfl (fun h => ?_) (fun h => ?_)
      · have h6 : m = t.length := by simp at h; omega
        rw [if_neg (by omega)]
        (repeat refine PW.seq ?_); refine PW.rg rfl fun K hK => ?_; simp (disch := omega) only [go_sem, ↓reduceIte, reduceCtorEq, pappend, plen]; refine hK _ _ ?_; clear hK K
        exact PW.ret ⟨_, rfl, Fin.now⟩
      · have h6 : m ≠ t.length := by intro e; subst e; simp at h
        rw [if_pos (by omega)]
        refine PW.skip ?_
        (repeat refine PW.seq ?_); refine PW.rg rfl fun K hK => ?_; simp (disch := omega) only [go_sem, ↓reduceIte, reduceCtorEq, pappend, plen]; refine hK _ _ ?_; clear hK K
        exact PW.ret ⟨_, rfl, Fin.now⟩

theorem kept_ref (t : List Int) (S : Nat → Bool) (k : Nat) (f g : Bool) (H : Heap) (hl : t.length ≤ 1000000) (hk : k < t.length) :
    CallOk Try.prog 86 [.slice (is t) t.length f, .slice (fs (rg t.length S)) t.length g, .int .i64 (k : Int)] H (.bool (kept t t.length S k)) H := by
  have hll := lst_le t k
  obtain ⟨q1, q2, q3, q4⟩ := nb_spec t t.length (k + 1) (by omega)
  refine CallOk.body (F0 := [(0, .slice (is t) t.length f), (1, .slice (fs (rg t.length S)) t.length g), (2, .int .i64 (k : Int))]) Try.func86 rfl Try.ntmps86 Try.results86 rfl (by kernel_rfl) rfl ?_
  (repeat refine PW.seq ?_); refine PW.rg rfl fun K hK => ?_; simp (disch := omega) only [go_sem, ↓reduceIte, reduceCtorEq, pappend, plen]; refine hK _ _ ?_; clear hK K
  (repeat refine PW.seq ?_); refine PW.rg rfl fun K hK => ?_; simp (disch := omega) only [go_sem, ↓reduceIte, reduceCtorEq, pappend, plen]
  refine VCx.call (before_ref t k f H hl hk) rfl ?_; simp (disch := omega) only [go_sem, ↓reduceIte, reduceCtorEq, pappend, plen]
  refine VCx.call (after_ref t k f H hl hk) rfl ?_; simp (disch := omega) only [go_sem, ↓reduceIte, reduceCtorEq, pappend, plen]
  refine hK _ _ ?_; clear hK K
  (repeat refine PW.seq ?_); refine PW.rg rfl fun K hK => ?_; simp (disch := omega) only [go_sem, ↓reduceIte, reduceCtorEq, pappend, plen, is_get, is_len, intAt_ty]; refine hK _ _ ?_; clear hK K
  (repeat refine PW.seq ?_); refine PW.block ?_
  (repeat refine PW.seq ?_); refine PW.rg rfl fun K hK => ?_; simp (disch := omega) only [go_sem, ↓reduceIte, reduceCtorEq, pappend, plen]; refine hK _ _ ?_; clear hK K
  (repeat refine PW.seq ?_); refine PW.cond (t := _) rfl (fun h => ?_) (fun h => ?_)
  · have h1 : ty t k = 1 := by simpa using h
    (repeat refine PW.seq ?_); refine PW.rg rfl fun K hK => ?_; simp (disch := omega) only [go_sem, ↓reduceIte, reduceCtorEq, pappend, plen]; refine hK _ _ ?_; clear hK K
    refine PW.ret ⟨_, rfl, ?_⟩
    simp only [kept, if_pos h1]
    exact Fin.now
  have h1 : ty t k ≠ 1 := by simpa using h
  (repeat refine PW.seq ?_); refine PW.rg rfl fun K hK => ?_; simp (disch := omega) only [go_sem, ↓reduceIte, reduceCtorEq, pappend, plen]; refine hK _ _ ?_; clear hK K
  (repeat refine PW.seq ?_); refine PW.cond (t := _) rfl (fun h => ?_) (fun h => ?_)
  · have h2 : ty t k = 2 := by simpa using h
    refine PW.seq ?_
    refine PW.rgv (P := Try.prog) [] 6 (.bool (kept t t.length S k)) ?_ ?_ ?_
    · rfl
    · simp only [kept, if_neg h1, if_pos h2]
      by_cases h0 : 0 < lst t k
      · have e : (lst t k : Int) - 1 = ((lst t k - 1 : Nat) : Int) := by omega
        simp (disch := omega) only [go_sem, ↓reduceIte, reduceCtorEq, pappend, plen, e, rg_cell, rg_len, fs_len]
        (repeat' ((first | refine VO_cond (fun h => ?_) (fun h => ?_) | refine VOd_cond (fun h => ?_) (fun h => ?_) | refine And.intro (fun h => ?_) (fun h => ?_)) <;> (try simp only [Bool.not_eq_true', Bool.not_eq_false', decide_eq_true_eq, decide_eq_false_iff_not] at h) <;> simp (disch := omega) only [go_sem, ↓reduceIte, reduceCtorEq, pappend, plen, e, rg_cell, rg_len, fs_len, h]))
        all_goals (simp_all [slot, Nat.beq] <;> first | rfl | omega | (rw [Bool.eq_iff_iff]; simp; done) | (rw [Bool.eq_iff_iff]; simp; omega))
      · simp (disch := omega) only [go_sem, ↓reduceIte, reduceCtorEq, pappend, plen]
        (repeat' ((first | refine VO_cond (fun h => ?_) (fun h => ?_) | refine VOd_cond (fun h => ?_) (fun h => ?_) | refine And.intro (fun h => ?_) (fun h => ?_)) <;> (try simp only [Bool.not_eq_true', Bool.not_eq_false', decide_eq_true_eq, decide_eq_false_iff_not] at h) <;> simp (disch := omega) only [go_sem, ↓reduceIte, reduceCtorEq, pappend, plen, h]))
        all_goals (simp_all [slot, Nat.beq] <;> first | rfl | omega | (rw [Bool.eq_iff_iff]; simp; done) | (rw [Bool.eq_iff_iff]; simp; omega))
    exact PW.ret ⟨_, rfl, Fin.now⟩
  have h2 : ty t k ≠ 2 := by simpa using h
  (repeat refine PW.seq ?_); refine PW.rg rfl fun K hK => ?_; simp (disch := omega) only [go_sem, ↓reduceIte, reduceCtorEq, pappend, plen]; refine hK _ _ ?_; clear hK K
  (repeat refine PW.seq ?_); refine PW.cond (t := _) rfl (fun h => ?_) (fun h => ?_)
  · have h3 : ty t k = 3 := by simpa using h
    refine PW.seq ?_
    refine PW.rgv (P := Try.prog) [] 6 (.bool (kept t t.length S k)) ?_ ?_ ?_
    · rfl
    · simp only [kept, if_neg h1, if_neg h2, if_pos h3]
      by_cases h0 : 0 < lst t k
      · have e : (lst t k : Int) - 1 = ((lst t k - 1 : Nat) : Int) := by omega
        by_cases hn : nb t t.length (k + 1) < t.length
        · simp (disch := omega) only [go_sem, ↓reduceIte, reduceCtorEq, pappend, plen, e, rg_cell, rg_len, fs_len, hn]
          (repeat' ((first | refine VO_cond (fun h => ?_) (fun h => ?_) | refine VOd_cond (fun h => ?_) (fun h => ?_) | refine And.intro (fun h => ?_) (fun h => ?_)) <;> (try simp only [Bool.not_eq_true', Bool.not_eq_false', decide_eq_true_eq, decide_eq_false_iff_not] at h) <;> simp (disch := omega) only [go_sem, ↓reduceIte, reduceCtorEq, pappend, plen, e, rg_cell, rg_len, fs_len, hn, h]))
          all_goals (simp_all [slot, Nat.beq] <;> first | rfl | omega | (rw [Bool.eq_iff_iff]; simp; done) | (rw [Bool.eq_iff_iff]; simp; omega))
        · simp (disch := omega) only [go_sem, ↓reduceIte, reduceCtorEq, pappend, plen, e, rg_cell, rg_len, fs_len, hn]
          (repeat' ((first | refine VO_cond (fun h => ?_) (fun h => ?_) | refine VOd_cond (fun h => ?_) (fun h => ?_) | refine And.intro (fun h => ?_) (fun h => ?_)) <;> (try simp only [Bool.not_eq_true', Bool.not_eq_false', decide_eq_true_eq, decide_eq_false_iff_not] at h) <;> simp (disch := omega) only [go_sem, ↓reduceIte, reduceCtorEq, pappend, plen, e, rg_cell, rg_len, fs_len, hn, h]))
          all_goals (simp_all [slot, Nat.beq] <;> first | rfl | omega | (rw [Bool.eq_iff_iff]; simp; done) | (rw [Bool.eq_iff_iff]; simp; omega))
      · simp (disch := omega) only [go_sem, ↓reduceIte, reduceCtorEq, pappend, plen]
        (repeat' ((first | refine VO_cond (fun h => ?_) (fun h => ?_) | refine VOd_cond (fun h => ?_) (fun h => ?_) | refine And.intro (fun h => ?_) (fun h => ?_)) <;> (try simp only [Bool.not_eq_true', Bool.not_eq_false', decide_eq_true_eq, decide_eq_false_iff_not] at h) <;> simp (disch := omega) only [go_sem, ↓reduceIte, reduceCtorEq, pappend, plen, h]))
        all_goals (simp_all [slot, Nat.beq] <;> first | rfl | omega | (rw [Bool.eq_iff_iff]; simp; done) | (rw [Bool.eq_iff_iff]; simp; omega))
    exact PW.ret ⟨_, rfl, Fin.now⟩
  have h3 : ty t k ≠ 3 := by simpa using h
  refine PW.skip ?_
  (repeat refine PW.seq ?_); refine PW.rg rfl fun K hK => ?_; simp (disch := omega) only [go_sem, ↓reduceIte, reduceCtorEq, pappend, plen]; refine hK _ _ ?_; clear hK K
  refine PW.ret ⟨_, rfl, ?_⟩
  simp only [kept, if_neg h1, if_neg h2, if_neg h3]
  exact Fin.now

/-- Is the set closed? -/
noncomputable def clo (t : List Int) (n : Nat) (S : Nat → Bool) : Bool := by classical exact decide (Closed t n S)
theorem clo_true {t : List Int} {n : Nat} {S : Nat → Bool} : clo t n S = true ↔ Closed t n S := by unfold clo; simp

theorem closed_ref (t : List Int) (S : Nat → Bool) (f g : Bool) (H : Heap) (hl : t.length ≤ 1000000) :
    CallOk Try.prog 38 [.slice (is t) t.length f, .slice (fs (rg t.length S)) t.length g] H (.bool (clo t t.length S)) H := by
  refine CallOk.body (F0 := [(0, .slice (is t) t.length f), (1, .slice (fs (rg t.length S)) t.length g)]) Try.func38 rfl Try.ntmps38 Try.results38 rfl (by kernel_rfl) rfl ?_
  (repeat refine PW.seq ?_); refine PW.rg rfl fun K hK => ?_; simp (disch := omega) only [go_sem, ↓reduceIte, reduceCtorEq, pappend, plen]; refine hK _ _ ?_; clear hK K; (repeat refine PW.seq ?_); refine PW.rg rfl fun K hK => ?_; simp (disch := omega) only [go_sem, ↓reduceIte, reduceCtorEq, pappend, plen]; refine hK _ _ ?_; clear hK K
  (repeat refine PW.seq ?_); refine PW.block (PW.loop ?_)
  suffices hloop : ∀ (m : Nat), m ≤ t.length → (∀ k, k < m → S k = true → kept t t.length S k = true) → PL Try.prog _ _ [(0, .slice (is t) t.length f), (1, .slice (fs (rg t.length S)) t.length g), (5, .int .i64 (m : Int))] H _ by
    exact PL.at [0, 1, 5] (hloop 0 (Nat.zero_le _) (fun k hk => by omega)) rfl rfl
  intro m hm hall
  induction hd : t.length - m using Nat.strongRecOn generalizing m with
  | _ d ih =>
    refine PL.round ?_; (repeat refine PW.seq ?_); refine PW.rg rfl fun K hK => ?_; simp (disch := omega) only [go_sem, ↓reduceIte, reduceCtorEq, pappend, plen]; refine hK _ _ ?_; clear hK K
    (repeat refine PW.seq ?_); refine PW.cond (t := _) rfl (fun h => ?_) (fun h => ?_)
    · have h4 : m < t.length := by have := of_decide_eq_true h; omega
      refine PW.skip ?_
      (repeat refine PW.seq ?_); refine PW.block ?_
      (repeat refine PW.seq ?_)
      refine PW.rgv (P := Try.prog) [0, 1, 5] 22 (.bool (S m && !(kept t t.length S m))) ?_ ?_ ?_
      · rfl
      · cases hS : S m
        · simp (disch := omega) only [go_sem, ↓reduceIte, reduceCtorEq, pappend, plen, rg_cell, rg_len, fs_len, hS]
          (repeat' ((first | refine VO_cond (fun h => ?_) (fun h => ?_) | refine VOd_cond (fun h => ?_) (fun h => ?_) | refine And.intro (fun h => ?_) (fun h => ?_)) <;> (try simp only [Bool.not_eq_true', Bool.not_eq_false', decide_eq_true_eq, decide_eq_false_iff_not] at h) <;> simp (disch := omega) only [go_sem, ↓reduceIte, reduceCtorEq, pappend, plen, rg_cell, rg_len, fs_len, hS, h]))
          all_goals (simp_all [slot, Nat.beq] <;> first | rfl | omega | (rw [Bool.eq_iff_iff]; simp; done) | (rw [Bool.eq_iff_iff]; simp; omega))
        · simp (disch := omega) only [go_sem, ↓reduceIte, reduceCtorEq, pappend, plen, rg_cell, rg_len, fs_len, hS]
          (repeat' (first | ((first | refine VO_cond (fun h => ?_) (fun h => ?_) | refine VOd_cond (fun h => ?_) (fun h => ?_) | refine And.intro (fun h => ?_) (fun h => ?_)) <;> (try simp only [Bool.not_eq_true', Bool.not_eq_false', decide_eq_true_eq, decide_eq_false_iff_not] at h) <;> simp (disch := omega) only [go_sem, ↓reduceIte, reduceCtorEq, pappend, plen, rg_cell, rg_len, fs_len, hS, h]) | (refine VCx.call (kept_ref t S m f g H hl h4) rfl ?_; simp (disch := omega) only [go_sem, ↓reduceIte, reduceCtorEq, pappend, plen, rg_cell, rg_len, fs_len, hS]) | (refine VCy.call (kept_ref t S m f g H hl h4) rfl ?_; simp (disch := omega) only [go_sem, ↓reduceIte, reduceCtorEq, pappend, plen, rg_cell, rg_len, fs_len, hS])))
          all_goals (simp_all [slot, Nat.beq] <;> first | rfl | omega | (rw [Bool.eq_iff_iff]; simp; done) | (rw [Bool.eq_iff_iff]; simp; omega))
      (repeat refine PW.seq ?_); refine PW.cond (t := _) rfl (fun h => ?_) (fun h => ?_)
      · have h5 : S m = true ∧ kept t t.length S m = false := by simpa using h
        (repeat refine PW.seq ?_); refine PW.rg rfl fun K hK => ?_; simp (disch := omega) only [go_sem, ↓reduceIte, reduceCtorEq, pappend, plen]; refine hK _ _ ?_; clear hK K
        refine PW.ret ⟨_, rfl, ?_⟩
        have : clo t t.length S = false := by
          cases hc : clo t t.length S
          · rfl
          · have := clo_true.1 hc m h4 h5.1
            rw [h5.2] at this; cases this
        rw [this]
        exact Fin.now
      · have h5 : S m = true → kept t t.length S m = true := fun e => by rw [e] at h; simpa using h
        refine PW.skip ?_
        (repeat refine PW.seq ?_); refine PW.rg rfl fun K hK => ?_; simp (disch := omega) only [go_sem, ↓reduceIte, reduceCtorEq, pappend, plen]; refine hK _ _ ?_; clear hK K
        refine PL.at [0, 1, 5] (ih (t.length - (m + 1)) (by omega) (m + 1) (by omega) (fun k hk hS => ?_) rfl) rfl rfl
        by_cases e : k = m
        · subst e; exact h5 hS
        · exact hall k (by omega) hS
    · have h4 : m = t.length := by have := of_decide_eq_false h; omega
      subst h4
      refine PW.exit ?_
      (repeat refine PW.seq ?_); refine PW.rg rfl fun K hK => ?_; simp (disch := omega) only [go_sem, ↓reduceIte, reduceCtorEq, pappend, plen]; refine hK _ _ ?_; clear hK K
      refine PW.ret ⟨_, rfl, ?_⟩
      rw [clo_true.2 hall]
      exact Fin.now

end Go.Proofs.Ytnjnikafhbholaa.Sc
