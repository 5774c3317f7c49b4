/-
  Contracts of chapter 31: the reference's Copyable, bools.
-/
import Derived.Test.YtnjnikafhbholaaPp
namespace Go.Proofs.Ytnjnikafhbholaa.Sc
set_option linter.all false
set_option linter.unusedVariables false
set_option linter.unusedSimpArgs false
open Pm Ty Pl Go.RowKit

theorem kept_mono (t : List Int) (n : Nat) {S S' : Nat → Bool} (h : ∀ j, j < n → S j = true → S' j = true) (k : Nat) (hk : k < n) (hS : kept t n S k = true) : kept t n S' k = true := by
  have hll := lst_le t k
  unfold kept at hS ⊢
  split
  · rfl
  · rename_i h1
    rw [if_neg h1] at hS
    split
    · rename_i h2
      rw [if_pos h2] at hS
      simp only [Bool.and_eq_true, decide_eq_true_eq] at hS ⊢
      exact ⟨hS.1, h _ (by omega) hS.2⟩
    · rename_i h2
      rw [if_neg h2] at hS
      split
      · rename_i h3
        rw [if_pos h3] at hS
        simp only [Bool.and_eq_true, decide_eq_true_eq] at hS ⊢
        exact ⟨hS.1, hS.2.1, h _ (by omega) hS.2.2.1, h _ hS.2.1 hS.2.2.2⟩
      · rename_i h3
        rw [if_neg h3] at hS
        exact hS

def cnt (n : Nat) (S : Nat → Bool) : Nat := ((List.range n).filter S).length
theorem cnt_le (S S' : Nat → Bool) : ∀ n, (∀ j, j < n → S' j = true → S j = true) → cnt n S' ≤ cnt n S
  | 0, _ => Nat.le_refl _
  | n + 1, h => by
    have := cnt_le S S' n (fun j hj => h j (by omega))
    unfold cnt at *
    rw [List.range_succ, List.filter_append, List.filter_append, List.length_append, List.length_append]
    have hn := h n (by omega)
    cases e : S' n
    · simp [e]; omega
    · simp [e, hn e]; omega
theorem cnt_lt (S S' : Nat → Bool) : ∀ n, (∀ j, j < n → S' j = true → S j = true) → (∃ j, j < n ∧ S j = true ∧ S' j = false) → cnt n S' < cnt n S
  | 0, _, ⟨j, hj, _⟩ => by omega
  | n + 1, h, ⟨j, hj, h1, h2⟩ => by
    have hle := cnt_le S S' n (fun j hj => h j (by omega))
    by_cases e : j = n
    · subst e
      unfold cnt at *
      rw [List.range_succ, List.filter_append, List.filter_append, List.length_append, List.length_append]
      simp [h1, h2]; omega
    · have hlt := cnt_lt S S' n (fun j hj => h j (by omega)) ⟨j, by omega, h1, h2⟩
      have hn := h n (by omega)
      unfold cnt at *
      rw [List.range_succ, List.filter_append, List.filter_append, List.length_append, List.length_append]
      cases e : S' n
      · simp [e]; omega
      · simp [e, hn e]; omega

set_option maxRecDepth 10000 in
theorem copy_ref (t : List Int) (f : Bool) (H : Heap) (hl : t.length ≤ 1000000) : CallOk Try.prog 37 [.slice (is t) t.length f] H (.slice (fs (rg t.length (arr t t.length))) t.length false) H := by
  refine CallOk.body (F0 := [(0, .slice (is t) t.length f)]) Try.func37 rfl Try.ntmps37 Try.results37 rfl (by kernel_rfl) rfl ?_
  (repeat refine PW.seq ?_); refine PW.rg rfl fun K hK => ?_; simp (disch := omega) only [go_sem, ↓reduceIte, reduceCtorEq, pappend, plen]; refine hK _ _ ?_; clear hK K; (repeat refine PW.seq ?_); refine PW.rg rfl fun K hK => ?_; simp (disch := omega) only [go_sem, ↓reduceIte, reduceCtorEq, pappend, plen]; refine hK _ _ ?_; clear hK K; (repeat refine PW.seq ?_); refine PW.rg rfl fun K hK => ?_; simp (disch := omega) only [go_sem, ↓reduceIte, reduceCtorEq, pappend, plen]; refine hK _ _ ?_; clear hK K
  (repeat refine PW.seq ?_); refine PW.block (PW.loop ?_)
  suffices hloop : ∀ i, i ≤ t.length → PL Try.prog _ _ [(0, .slice (is t) t.length f), (3, .msl H.length 0 0 t.length 1 true), (4, .int .i64 (i : Int))] (H ++ [⟨4, 0, fs (rg t.length fun j => decide (j < i))⟩]) _ by
    refine PL.at [0, 3, 4] (hloop 0 (Nat.zero_le _)) rfl ?_
    rw [show (fun j => decide (j < 0)) = fun _ => false from by funext j; simp, rg_false]; rfl
  intro i hi
  induction hm : t.length - i using Nat.strongRecOn generalizing i with
  | _ m ih =>
    refine PL.round ?_; (repeat refine PW.seq ?_); refine PW.rg rfl fun K hK => ?_; simp (disch := omega) only [go_sem, ↓reduceIte, reduceCtorEq, pappend, plen]; refine hK _ _ ?_; clear hK K
    (repeat refine PW.seq ?_); refine PW.cond (t := _) rfl (fun h => ?_) (fun h => ?_)
    · have h4 : i < t.length := by have := of_decide_eq_true h; omega
      have hset : (fs (rg t.length fun j => decide (j < i))).set i (.bool true) = fs (rg t.length fun j => decide (j < i + 1)) := by
        rw [rg_set]
        rw [rg_ext t.length (g' := fun j => decide (j < i + 1)) (fun j hj => by
          by_cases e : j = i
          · subst e; simp
          · rw [if_neg e]
            have : (j < i) = (j < i + 1) := by apply propext; omega
            simp only [this])]
      refine PW.skip ?_; (repeat refine PW.seq ?_); refine PW.block ?_
      (repeat refine PW.seq ?_); refine PW.rg rfl fun K hK => ?_; simp (disch := omega) only [go_sem, ↓reduceIte, reduceCtorEq, pappend, plen, rg_len, fs_len, hset]; refine hK _ _ ?_; clear hK K
      (repeat refine PW.seq ?_); refine PW.rg rfl fun K hK => ?_; simp (disch := omega) only [go_sem, ↓reduceIte, reduceCtorEq, pappend, plen]; refine hK _ _ ?_; clear hK K
      exact PL.at [0, 3, 4] (ih (t.length - (i + 1)) (by omega) (i + 1) (by omega) rfl) rfl rfl
    · have h4 : i = t.length := by have := of_decide_eq_false h; omega
      subst h4
      clear ih hm h
      refine PW.exit ?_
      (repeat refine PW.seq ?_); refine PW.block (PW.loop ?_)
      suffices hloop : ∀ (S : Nat → Bool), (∀ j, j < t.length → arr t t.length j = true → S j = true) → PL Try.prog _ _ [(0, .slice (is t) t.length f), (3, .msl H.length 0 0 t.length 1 true)] (H ++ [⟨4, 0, fs (rg t.length S)⟩]) _ by
        exact PL.at [0, 3] (hloop (fun j => decide (j < t.length)) (fun j hj _ => by simpa using hj)) rfl rfl
      intro S hS
      induction hm : cnt t.length S using Nat.strongRecOn generalizing S with
      | _ m ih =>
        have hcall : ∀ S, CallOk Try.prog 38 [.slice (is t) t.length f, .msl H.length 0 0 t.length 1 true] (H ++ [⟨4, 0, fs (rg t.length S)⟩]) (.bool (clo t t.length S)) (H ++ [⟨4, 0, fs (rg t.length S)⟩]) := fun S =>
          CallOk.borrow (closed_ref t S f false [] (by omega)) ⟨.id (sl_scoped (is_scoped 0 t)), Fz.mslC (e := 4) (xs := fs (rg t.length S)) (Nat.zero_le _) (by simp) (by rw [fs_len, rg_len]; omega) (FzC.refl (fs_scoped _ _)), trivial⟩ (.bool _)
        have hkept : ∀ S k, k < t.length → CallOk Try.prog 86 [.slice (is t) t.length f, .msl H.length 0 0 t.length 1 true, .int .i64 (k : Int)] (H ++ [⟨4, 0, fs (rg t.length S)⟩]) (.bool (kept t t.length S k)) (H ++ [⟨4, 0, fs (rg t.length S)⟩]) := fun S k hk =>
          CallOk.borrow (kept_ref t S k f false [] (by omega) hk) ⟨.id (sl_scoped (is_scoped 0 t)), Fz.mslC (e := 4) (xs := fs (rg t.length S)) (Nat.zero_le _) (by simp) (by rw [fs_len, rg_len]; omega) (FzC.refl (fs_scoped _ _)), .id (.int _ _), trivial⟩ (.bool _)
        refine PL.round ?_
        (repeat refine PW.seq ?_); refine PW.rg rfl fun K hK => ?_; simp (disch := omega) only [go_sem, ↓reduceIte, reduceCtorEq, pappend, plen]; refine VCx.call (hcall S) rfl ?_; simp (disch := omega) only [go_sem, ↓reduceIte, reduceCtorEq, pappend, plen]; refine hK _ _ ?_; clear hK K
        (repeat refine PW.seq ?_); refine PW.cond (t := _) rfl (fun h => ?_) (fun h => ?_)
        · have h4 : clo t t.length S = false := by simpa using h
          have hnc : ∃ j, j < t.length ∧ S j = true ∧ kept t t.length S j = false := by
            apply Classical.byContradiction
            intro hno
            have : clo t t.length S = true := clo_true.2 (fun j hj hSj => by
              cases hk : kept t t.length S j
              · exact absurd ⟨j, hj, hSj, hk⟩ hno
              · rfl)
            rw [h4] at this; cases this
          obtain ⟨j0, hj0, hSj0, hkj0⟩ := hnc
          refine PW.skip ?_
          (repeat refine PW.seq ?_); refine PW.block ?_
          (repeat refine PW.seq ?_); refine PW.rg rfl fun K hK => ?_; simp (disch := omega) only [go_sem, ↓reduceIte, reduceCtorEq, pappend, plen]; refine hK _ _ ?_; clear hK K
          (repeat refine PW.seq ?_); refine PW.block (PW.loop ?_)
          suffices hloop : ∀ (k : Nat) (S' : Nat → Bool), k ≤ t.length → (∀ j, j < t.length → arr t t.length j = true → S' j = true) → (∀ j, j < t.length → S' j = true → S j = true) → (∀ j, k ≤ j → S' j = S j) → (j0 < k → S' j0 = false) → PL Try.prog _ _ [(0, .slice (is t) t.length f), (3, .msl H.length 0 0 t.length 1 true), (5, .int .i64 (k : Int))] (H ++ [⟨4, 0, fs (rg t.length S')⟩]) _ by
            exact PL.at [0, 3, 5] (hloop 0 S (Nat.zero_le _) hS (fun _ _ h => h) (fun _ _ => rfl) (fun h => by omega)) rfl rfl
          intro k S' hk q1 q2 q3 q4
          induction hm2 : t.length - k using Nat.strongRecOn generalizing k S' with
          | _ m2 ih2 =>
            refine PL.round ?_; (repeat refine PW.seq ?_); refine PW.rg rfl fun K hK => ?_; simp (disch := omega) only [go_sem, ↓reduceIte, reduceCtorEq, pappend, plen]; refine hK _ _ ?_; clear hK K
            (repeat refine PW.seq ?_); refine PW.cond (t := _) rfl (fun h => ?_) (fun h => ?_)
            · have h5 : k < t.length := by have := of_decide_eq_true h; omega
              have hset := rg_set t.length S' k (S' k && kept t t.length S' k)
              have hnext := ih2 (t.length - (k + 1)) (by omega) (k + 1) (fun j => if j = k then (S' k && kept t t.length S' k) else S' j) (by omega)
                (fun j hj ha => by
                  by_cases e : j = k
                  · subst e
                    rw [if_pos rfl, q1 j hj ha, Bool.true_and]
                    rw [arr_kept t _ j hj] at ha
                    exact kept_mono t _ q1 j hj ha
                  · rw [if_neg e]; exact q1 j hj ha)
                (fun j hj hs => by
                  by_cases e : j = k
                  · subst e
                    rw [if_pos rfl, Bool.and_eq_true] at hs
                    exact q2 j hj hs.1
                  · rw [if_neg e] at hs; exact q2 j hj hs)
                (fun j hj => by rw [if_neg (by omega)]; exact q3 j (by omega))
                (fun hj => by
                  by_cases e : j0 = k
                  · subst e
                    rw [if_pos rfl]
                    cases hk2 : kept t t.length S' j0
                    · simp
                    · rw [kept_mono t _ q2 j0 hj0 hk2] at hkj0; cases hkj0
                  · rw [if_neg e]; exact q4 (by omega)) rfl
              refine PW.skip ?_
              refine PW.to [0, 3, 5] [(0, .slice (is t) t.length f), (3, .msl H.length 0 0 t.length 1 true), (5, .int .i64 (k : Int))] (H ++ [⟨4, 0, fs (rg t.length fun j => if j = k then (S' k && kept t t.length S' k) else S' j)⟩]) ?_ ?_
              · clear hnext ih2 ih
                (repeat refine PW.seq ?_); refine PW.block ?_
                (repeat refine PW.seq ?_); refine PW.rg rfl fun K hK => ?_
                cases hSk : S' k
                · rw [hSk, Bool.false_and] at hset
                  simp (disch := omega) only [go_sem, ↓reduceIte, reduceCtorEq, pappend, plen, rg_cell, rg_len, fs_len, hSk, hset]
                  (repeat' ((first | refine VO_cond (fun h => ?_) (fun h => ?_) | refine VOd_cond (fun h => ?_) (fun h => ?_) | refine And.intro (fun h => ?_) (fun h => ?_)) <;> (try simp only [Bool.not_eq_true', Bool.not_eq_false', decide_eq_true_eq, decide_eq_false_iff_not] at h) <;> simp (disch := omega) only [go_sem, ↓reduceIte, reduceCtorEq, pappend, plen, rg_cell, rg_len, fs_len, hSk, hset, h]))
                  refine hK _ _ ⟨rfl, ?_⟩
                  rw [hSk, Bool.false_and]
                · rw [hSk, Bool.true_and] at hset
                  simp (disch := omega) only [go_sem, ↓reduceIte, reduceCtorEq, pappend, plen, rg_cell, rg_len, fs_len, hSk, hset]
                  (repeat' (first | ((first | refine VO_cond (fun h => ?_) (fun h => ?_) | refine VOd_cond (fun h => ?_) (fun h => ?_) | refine And.intro (fun h => ?_) (fun h => ?_)) <;> (try simp only [Bool.not_eq_true', Bool.not_eq_false', decide_eq_true_eq, decide_eq_false_iff_not] at h) <;> simp (disch := omega) only [go_sem, ↓reduceIte, reduceCtorEq, pappend, plen, rg_cell, rg_len, fs_len, hSk, hset, h]) | (refine VCx.call (hkept S' k h5) rfl ?_; simp (disch := omega) only [go_sem, ↓reduceIte, reduceCtorEq, pappend, plen, rg_cell, rg_len, fs_len, hSk, hset]) | (refine VCy.call (hkept S' k h5) rfl ?_; simp (disch := omega) only [go_sem, ↓reduceIte, reduceCtorEq, pappend, plen, rg_cell, rg_len, fs_len, hSk, hset])))
                  refine hK _ _ ⟨rfl, ?_⟩
                  rw [hSk, Bool.true_and]
              (repeat refine PW.seq ?_); refine PW.rg rfl fun K hK => ?_; simp (disch := omega) only [go_sem, ↓reduceIte, reduceCtorEq, pappend, plen]; refine hK _ _ ?_; clear hK K
              exact PL.at [0, 3, 5] hnext rfl rfl
            · refine PW.exit ?_
              have h5 : k = t.length := by have := of_decide_eq_false h; omega
              exact PL.at [0, 3] (ih (cnt t.length S') (by rw [← hm]; exact cnt_lt S S' t.length q2 ⟨j0, hj0, hSj0, q4 (by omega)⟩) S' q1 rfl) rfl rfl
        · have h4 : clo t t.length S = true := by simpa using h
          refine PW.exit ?_
          have e : rg t.length S = rg t.length (arr t t.length) := rg_ext t.length (fun j hj => by
            rw [Bool.eq_iff_iff]
            exact ⟨arr_great t t.length S (clo_true.1 h4) j hj, hS j hj⟩)
          rw [e]
          (repeat refine PW.seq ?_); refine PW.rg rfl fun K hK => ?_; simp (disch := omega) only [go_sem, ↓reduceIte, reduceCtorEq, pappend, plen]; refine hK _ _ ?_; clear hK K
          refine PW.ret ⟨_, rfl, ?_⟩
          exact Fin.base (Fz.mslC (e := 4) (xs := fs (rg t.length (arr t t.length))) (Nat.le_refl _) (by simp) (by rw [fs_len, rg_len]; omega) (FzC.refl (fs_scoped _ _)))

theorem bools_ok (a b : List Bool) (f g : Bool) (H : Heap) (ha : a.length ≤ 1000000) (hb : b.length ≤ 1000000) : CallOk Try.prog 35 [.slice (fs a) a.length f, .slice (fs b) b.length g] H (.bool (decide (a = b))) H := by
  refine CallOk.body (F0 := [(0, .slice (fs a) a.length f), (1, .slice (fs b) b.length g)]) Try.func35 rfl Try.ntmps35 Try.results35 rfl (by kernel_rfl) rfl ?_
  (repeat refine PW.seq ?_); refine PW.rg rfl fun K hK => ?_; simp (disch := omega) only [go_sem, ↓reduceIte, reduceCtorEq, pappend, plen]; refine hK _ _ ?_; clear hK K; (repeat refine PW.seq ?_); refine PW.rg rfl fun K hK => ?_; simp (disch := omega) only [go_sem, ↓reduceIte, reduceCtorEq, pappend, plen]; refine hK _ _ ?_; clear hK K
  (repeat refine PW.seq ?_); refine PW.cond (t := _) rfl (fun h => ?_) (fun h => ?_)
  · have h4 : a.length ≠ b.length := by simp at h; omega
    (repeat refine PW.seq ?_); refine PW.rg rfl fun K hK => ?_; simp (disch := omega) only [go_sem, ↓reduceIte, reduceCtorEq, pappend, plen]; refine hK _ _ ?_; clear hK K
    refine PW.ret ⟨_, rfl, ?_⟩
    rw [decide_eq_false (fun e => h4 (by rw [e]))]
    exact Fin.now
  have h4 : a.length = b.length := by simp at h; omega
  refine PW.skip ?_
  (repeat refine PW.seq ?_); refine PW.rg rfl fun K hK => ?_; simp (disch := omega) only [go_sem, ↓reduceIte, reduceCtorEq, pappend, plen]; refine hK _ _ ?_; clear hK K
  (repeat refine PW.seq ?_); refine PW.block (PW.loop ?_)
  suffices hloop : ∀ (k : Nat), k ≤ a.length → (∀ j, j < k → flagAt a j = flagAt b j) → PL Try.prog _ _ [(0, .slice (fs a) a.length f), (1, .slice (fs b) b.length g), (12, .int .i64 (a.length : Int)), (13, .int .i64 (k : Int))] H _ by
    exact PL.at [0, 1, 12, 13] (hloop 0 (Nat.zero_le _) (fun j hj => by omega)) rfl rfl
  intro k hk hall
  induction hm : a.length - k using Nat.strongRecOn generalizing k with
  | _ m ih =>
    refine PL.round ?_; (repeat refine PW.seq ?_); refine PW.rg rfl fun K hK => ?_; simp (disch := omega) only [go_sem, ↓reduceIte, reduceCtorEq, pappend, plen]; refine hK _ _ ?_; clear hK K
    (repeat refine PW.seq ?_); refine PW.cond (t := _) rfl (fun h => ?_) (fun h => ?_)
    · have h5 : k < a.length := by have := of_decide_eq_true h; omega
      refine PW.skip ?_
      (repeat refine PW.seq ?_); refine PW.block ?_
      (repeat refine PW.seq ?_); refine PW.rg rfl fun K hK => ?_; simp (disch := omega) only [go_sem, ↓reduceIte, reduceCtorEq, pappend, plen]; refine hK _ _ ?_; clear hK K
      (repeat refine PW.seq ?_); refine PW.draw mix (by kernel_rfl) fun K hK => ?_; simp (disch := omega) only [go_sem, ↓reduceIte, reduceCtorEq, pappend, plen, fs_get, fs_len]; refine hK _ _ ?_; clear hK K
      (repeat refine PW.seq ?_); refine PW.cond (t := _) rfl (fun h => ?_) (fun h => ?_)
      · have h6 : flagAt a k ≠ flagAt b k := by intro e; rw [e] at h; cases hb : flagAt b k <;> rw [hb] at h <;> cases h
        (repeat refine PW.seq ?_); refine PW.rg rfl fun K hK => ?_; simp (disch := omega) only [go_sem, ↓reduceIte, reduceCtorEq, pappend, plen]; refine hK _ _ ?_; clear hK K
        refine PW.ret ⟨_, rfl, ?_⟩
        rw [decide_eq_false (fun e => h6 (by rw [e]))]
        exact Fin.now
      · have h6 : flagAt a k = flagAt b k := by cases ha : flagAt a k <;> cases hb : flagAt b k <;> rw [ha, hb] at h <;> first | rfl | cases h
        refine PW.skip ?_
        (repeat refine PW.seq ?_); refine PW.rg rfl fun K hK => ?_; simp (disch := omega) only [go_sem, ↓reduceIte, reduceCtorEq, pappend, plen]; refine hK _ _ ?_; clear hK K
        refine PL.at [0, 1, 12, 13] (ih (a.length - (k + 1)) (by omega) (k + 1) (by omega) (fun j hj => ?_) rfl) rfl rfl
        by_cases e : j = k
        · subst e; exact h6
        · exact hall j (by omega)
    · have h5 : k = a.length := by have := of_decide_eq_false h; omega
      subst h5
      refine PW.exit ?_
      (repeat refine PW.seq ?_); refine PW.rg rfl fun K hK => ?_; simp (disch := omega) only [go_sem, ↓reduceIte, reduceCtorEq, pappend, plen]; refine hK _ _ ?_; clear hK K
      refine PW.ret ⟨_, rfl, ?_⟩
      have : a = b := by
        apply List.ext_getElem?
        intro j
        by_cases hj : j < a.length
        · have := hall j hj
          simp only [flagAt, List.getD, List.getElem?_eq_getElem hj, List.getElem?_eq_getElem (h4 ▸ hj : j < b.length), Option.getD_some] at this
          rw [List.getElem?_eq_getElem hj, List.getElem?_eq_getElem (h4 ▸ hj : j < b.length), this]
        · rw [List.getElem?_eq_none (by omega), List.getElem?_eq_none (by omega)]
      rw [decide_eq_true this]
      exact Fin.now

end Go.Proofs.Ytnjnikafhbholaa.Sc
