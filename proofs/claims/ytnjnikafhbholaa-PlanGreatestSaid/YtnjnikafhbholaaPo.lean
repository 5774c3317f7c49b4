/-
  The law PlanClosedForm's contract.
-/
import Derived.Test.YtnjnikafhbholaaPn
import Derived.Test.YtnjnikafhbholaaAw
namespace Go.Proofs.Ytnjnikafhbholaa.Sc
set_option linter.all false
set_option linter.unusedVariables false
set_option linter.unusedSimpArgs false
open Pm Ty Pl Go.RowKit

/-- The types of frames that bytes stand for. -/
def tt (q : List UInt8) (n : Nat) : List Int := (List.range n).map fun i => 1 + byt q i % 3
theorem tt_len (q : List UInt8) (n : Nat) : (tt q n).length = n := by simp [tt]
theorem tt_snoc (q : List UInt8) (n : Nat) : tt q (n + 1) = tt q n ++ [1 + byt q n % 3] := by simp [tt, List.range_succ]
theorem tt_ty (q : List UInt8) (n k : Nat) (h : k < n) : ty (tt q n) k = 1 ∨ ty (tt q n) k = 2 ∨ ty (tt q n) k = 3 := by
  have : ty (tt q n) k = 1 + byt q k % 3 := by simp [ty, tt, h]
  omega
theorem wu8n (n : Int) (h : 0 ≤ n ∧ n ≤ 255) : IntKind.u8.wrap n = n := by
  simp [IntKind.wrap, IntKind.signed, IntKind.bits]
  omega

theorem law_closedForm (q : List UInt8) (f : Bool) (H : Heap) : CallOk Try.prog 8 [.slice (bs q) q.length f] H (.bool true) H := by
  refine CallOk.body (F0 := [(0, .slice (bs q) q.length f)]) Try.func8 rfl Try.ntmps8 Try.results8 rfl (by kernel_rfl) rfl ?_
  (repeat refine PW.seq ?_); refine PW.rg rfl fun K hK => ?_; simp (disch := omega) only [go_sem, ↓reduceIte, reduceCtorEq, pappend, plen]; refine hK _ _ ?_; clear hK K; (repeat refine PW.seq ?_); refine PW.rg rfl fun K hK => ?_; simp (disch := omega) only [go_sem, ↓reduceIte, reduceCtorEq, pappend, plen]; refine hK _ _ ?_; clear hK K; (repeat refine PW.seq ?_); refine PW.rg rfl fun K hK => ?_; simp (disch := omega) only [go_sem, ↓reduceIte, reduceCtorEq, pappend, plen]; refine hK _ _ ?_; clear hK K
  (repeat refine PW.seq ?_)
  refine PW.view (Vs.ghost 3 3 1 rfl) ?_
  refine PW.block (PW.loop ?_)
  suffices hloop : ∀ (k : Nat), k ≤ q.length → k ≤ 200 → PL Try.prog _ _ [(0, .slice (bs q) q.length f), (3, .msl H.length k 0 k 1 true), (4, .int .i64 (k : Int))] (H ++ [⟨3, k, is (tt q k)⟩]) _ by
    exact PL.at [0, 3, 4] (hloop 0 (Nat.zero_le _) (by omega)) rfl rfl
  intro k hk hk2
  induction hm : 200 - k using Nat.strongRecOn generalizing k with
  | _ m ih =>
    refine PL.round ?_
    (repeat refine PW.seq ?_)
    refine PW.rgv (P := Try.prog) [0, 3, 4] 17 (.bool (decide (k < q.length) && decide (k < 200))) ?_ ?_ ?_
    · rfl
    · simp (disch := omega) only [go_sem, ↓reduceIte, reduceCtorEq, pappend, plen]
      (repeat' ((first | refine VO_cond (fun h => ?_) (fun h => ?_) | refine VOd_cond (fun h => ?_) (fun h => ?_) | refine And.intro (fun h => ?_) (fun h => ?_)) <;> (try simp only [Bool.not_eq_true', Bool.not_eq_false', decide_eq_true_eq, decide_eq_false_iff_not] at h) <;> simp (disch := omega) only [go_sem, ↓reduceIte, reduceCtorEq, pappend, plen, h]))
      all_goals (simp_all [slot, Nat.beq] <;> first | rfl | omega | (rw [Bool.eq_iff_iff]; simp; done) | (rw [Bool.eq_iff_iff]; simp; omega))
    (repeat refine PW.seq ?_); refine PW.cond (t := _) rfl (fun h => ?_) (fun h => ?_)
    · have h4 : k < q.length ∧ k < 200 := by simpa using h
      have hr := byt_range q k
      have hnext := ih (200 - (k + 1)) (by omega) (k + 1) (by omega) (by omega) rfl
      rw [tt_snoc, is_append] at hnext
      have hc : (is (tt q k)).length = k := by rw [is_len, tt_len]
      have hc1 : (is (tt q k) ++ [PV.int .i64 (1 + byt q k % 3)]).length = k + 1 := by rw [List.length_append, hc]; rfl
      refine PW.skip ?_; (repeat refine PW.seq ?_); refine PW.block ?_
      (repeat refine PW.seq ?_); refine PW.rg rfl fun K hK => ?_; simp (disch := omega) only [go_sem, ↓reduceIte, reduceCtorEq, pappend, plen, bs_get, length_bs, tmod_pos, hc, tt_len, is_len]; refine hK _ _ ?_; clear hK K
      (repeat refine PW.seq ?_); refine PW.rg rfl fun K hK => ?_; simp (disch := omega) only [go_sem, ↓reduceIte, reduceCtorEq, pappend, plen]; refine hK _ _ ?_; clear hK K
      refine PL.at [0, 3, 4] hnext ?_ ?_
      · simp (disch := omega) only [go_sem, ↓reduceIte, reduceCtorEq, pappend, plen]
        rw [hc1]; rfl
      · rw [hc1]; rfl
    · refine PW.exit ?_
      clear ih hm h
      obtain ⟨t, ht⟩ : ∃ t, tt q k = t := ⟨_, rfl⟩
      have htl : t.length = k := by rw [← ht, tt_len]
      have hty : ∀ i, i < t.length → ty t i = 1 ∨ ty t i = 2 ∨ ty t i = 3 := fun i hi => by rw [← ht]; exact tt_ty q k i (by omega)
      rw [ht]
      (repeat refine PW.seq ?_)
      refine PW.view (Vs.trim (H1 := H) (F1 := [(3, .slice (is t) t.length false)]) (fun h => h) (Nat.le_refl _) rfl ⟨?_, trivial⟩) ?_
      · simp only [slot, Nat.beq, kp, List.map]
        rw [htl]
        exact Fz.mslC (e := 3) (xs := is t) (Nat.le_refl _) (by simp) (by rw [is_len]; omega) (FzC.refl (is_scoped _ _))
      clear ht
      (repeat refine PW.seq ?_); refine PW.rg rfl fun K hK => ?_; simp (disch := omega) only [go_sem, ↓reduceIte, reduceCtorEq, pappend, plen]; refine VCx.call (copy_ok t false H (by omega)) rfl ?_; simp (disch := omega) only [go_sem, ↓reduceIte, reduceCtorEq, pappend, plen]; refine hK _ _ ?_; clear hK K
      (repeat refine PW.seq ?_); refine PW.rg rfl fun K hK => ?_; simp (disch := omega) only [go_sem, ↓reduceIte, reduceCtorEq, pappend, plen]; refine hK _ _ ?_; clear hK K; (repeat refine PW.seq ?_); refine PW.rg rfl fun K hK => ?_; simp (disch := omega) only [go_sem, ↓reduceIte, reduceCtorEq, pappend, plen]; refine hK _ _ ?_; clear hK K
      (repeat refine PW.seq ?_); refine PW.block (PW.loop ?_)
      suffices hloop : ∀ (i : Nat), i ≤ t.length → PL Try.prog _ _ [(3, .slice (is t) t.length false), (5, .slice (fs (rg t.length (arr t t.length))) t.length false), (6, .int .i64 (fi t i)), (7, .int .i64 (la t i)), (33, .int .i64 (t.length : Int)), (34, .int .i64 (i : Int))] H _ by
        exact PL.at [3, 5, 6, 7, 33, 34] (hloop 0 (Nat.zero_le _)) rfl rfl
      intro i hi
      induction hm : t.length - i using Nat.strongRecOn generalizing i with
      | _ m ih =>
        refine PL.round ?_; (repeat refine PW.seq ?_); refine PW.rg rfl fun K hK => ?_; simp (disch := omega) only [go_sem, ↓reduceIte, reduceCtorEq, pappend, plen]; refine hK _ _ ?_; clear hK K
        (repeat refine PW.seq ?_); refine PW.cond (t := _) rfl (fun h => ?_) (fun h => ?_)
        · have h4 : i < t.length := by have := of_decide_eq_true h; omega
          have hnext := ih (t.length - (i + 1)) (by omega) (i + 1) (by omega) rfl
          have hf1 := fi_lt t i
          have hf2 := fi_lt t (i + 1)
          refine PW.skip ?_
          refine PW.to [3, 5, 6, 7, 33, 34] [(3, .slice (is t) t.length false), (5, .slice (fs (rg t.length (arr t t.length))) t.length false), (6, .int .i64 (fi t (i + 1))), (7, .int .i64 (la t (i + 1))), (33, .int .i64 (t.length : Int)), (34, .int .i64 (i : Int))] H ?_ ?_
          rotate_left
          · (repeat refine PW.seq ?_); refine PW.rg rfl fun K hK => ?_; simp (disch := omega) only [go_sem, ↓reduceIte, reduceCtorEq, pappend, plen]; refine hK _ _ ?_; clear hK K
            exact PL.at [3, 5, 6, 7, 33, 34] hnext rfl rfl
          clear hnext ih
          (repeat refine PW.seq ?_); refine PW.block ?_
          (repeat refine PW.seq ?_); refine PW.rg rfl fun K hK => ?_; simp (disch := omega) only [go_sem, ↓reduceIte, reduceCtorEq, pappend, plen]; refine hK _ _ ?_; clear hK K
          (repeat refine PW.seq ?_)
          refine PW.rgv (P := Try.prog) [3, 5, 6, 7, 8, 33, 34] 45 (.bool (decide (ty t i = 1 ∧ fi t i < 0))) ?_ ?_ ?_
          · rfl
          · simp (disch := omega) only [go_sem, ↓reduceIte, reduceCtorEq, pappend, plen, is_get, is_len, intAt_ty]
            (repeat' ((first | refine VO_cond (fun h => ?_) (fun h => ?_) | refine VOd_cond (fun h => ?_) (fun h => ?_) | refine And.intro (fun h => ?_) (fun h => ?_)) <;> (try simp only [Bool.not_eq_true', Bool.not_eq_false', decide_eq_true_eq, decide_eq_false_iff_not] at h) <;> simp (disch := omega) only [go_sem, ↓reduceIte, reduceCtorEq, pappend, plen, is_get, is_len, intAt_ty, h]))
            all_goals (simp_all [slot, Nat.beq] <;> first | rfl | omega | (rw [Bool.eq_iff_iff]; simp; done) | (rw [Bool.eq_iff_iff]; simp; omega))
          refine PW.meet [3, 5, 6, 7, 8, 33, 34] [(3, .slice (is t) t.length false), (5, .slice (fs (rg t.length (arr t t.length))) t.length false), (6, .int .i64 (fi t (i + 1))), (7, .int .i64 (la t i)), (8, .int .i64 (i : Int)), (33, .int .i64 (t.length : Int)), (34, .int .i64 (i : Int))] H ?_ ?_
          · (repeat refine PW.seq ?_); refine PW.cond (t := _) rfl (fun h => ?_) (fun h => ?_)
            · have h5 : ty t i = 1 ∧ fi t i < 0 := by simpa using h
              (repeat refine PW.seq ?_); refine PW.rg rfl fun K hK => ?_; simp (disch := omega) only [go_sem, ↓reduceIte, reduceCtorEq, pappend, plen]; refine hK _ _ ?_; clear hK K
              refine ⟨?_, rfl⟩
              simp only [fi, if_pos h5]; rfl
            · have h5 : ¬ (ty t i = 1 ∧ fi t i < 0) := of_decide_eq_false h
              refine PW.skip ⟨?_, rfl⟩
              simp only [fi, if_neg h5]; rfl
          (repeat refine PW.seq ?_)
          refine PW.rgv (P := Try.prog) [3, 5, 6, 7, 8, 33, 34] 55 (.bool (decide (ty t i ≠ 3 ∧ 0 ≤ fi t (i + 1)))) ?_ ?_ ?_
          · rfl
          · simp (disch := omega) only [go_sem, ↓reduceIte, reduceCtorEq, pappend, plen, is_get, is_len, intAt_ty]
            (repeat' ((first | refine VO_cond (fun h => ?_) (fun h => ?_) | refine VOd_cond (fun h => ?_) (fun h => ?_) | refine And.intro (fun h => ?_) (fun h => ?_)) <;> (try simp only [Bool.not_eq_true', Bool.not_eq_false', decide_eq_true_eq, decide_eq_false_iff_not] at h) <;> simp (disch := omega) only [go_sem, ↓reduceIte, reduceCtorEq, pappend, plen, is_get, is_len, intAt_ty, h]))
            all_goals (simp_all [slot, Nat.beq] <;> first | rfl | omega | (rw [Bool.eq_iff_iff]; simp; done) | (rw [Bool.eq_iff_iff]; simp; omega))
          (repeat refine PW.seq ?_); refine PW.cond (t := _) rfl (fun h => ?_) (fun h => ?_)
          · have h5 : ty t i ≠ 3 ∧ 0 ≤ fi t (i + 1) := of_decide_eq_true h
            (repeat refine PW.seq ?_); refine PW.rg rfl fun K hK => ?_; simp (disch := omega) only [go_sem, ↓reduceIte, reduceCtorEq, pappend, plen]; refine hK _ _ ?_; clear hK K
            refine ⟨?_, rfl⟩
            simp only [la, if_pos h5]; rfl
          · have h5 : ¬ (ty t i ≠ 3 ∧ 0 ≤ fi t (i + 1)) := of_decide_eq_false h
            refine PW.skip ⟨?_, rfl⟩
            simp only [la, if_neg h5]; rfl
        · have h4 : i = t.length := by have := of_decide_eq_false h; omega
          subst h4
          clear ih h hm
          refine PW.exit ?_
          have hf1 := fi_lt t t.length
          have hf2 := la_lt t t.length
          have hcf := closed_form t t.length hty
          (repeat refine PW.seq ?_); refine PW.rg rfl fun K hK => ?_; simp (disch := omega) only [go_sem, ↓reduceIte, reduceCtorEq, pappend, plen]; refine hK _ _ ?_; clear hK K
          (repeat refine PW.seq ?_); refine PW.cond (t := _) rfl (fun h => ?_) (fun h => ?_)
          · simp at h
          refine PW.skip ?_
          (repeat refine PW.seq ?_); refine PW.rg rfl fun K hK => ?_; simp (disch := omega) only [go_sem, ↓reduceIte, reduceCtorEq, pappend, plen]; refine hK _ _ ?_; clear hK K
          (repeat refine PW.seq ?_); refine PW.block (PW.loop ?_)
          suffices hloop : ∀ (i : Nat), i ≤ t.length → PL Try.prog _ _ [(5, .slice (fs (rg t.length (arr t t.length))) t.length false), (6, .int .i64 (fi t t.length)), (7, .int .i64 (la t t.length)), (64, .int .i64 (t.length : Int)), (65, .int .i64 (i : Int))] H _ by
            exact PL.at [5, 6, 7, 64, 65] (hloop 0 (Nat.zero_le _)) rfl rfl
          intro i hi
          induction hm : t.length - i using Nat.strongRecOn generalizing i with
          | _ m ih =>
            refine PL.round ?_; (repeat refine PW.seq ?_); refine PW.rg rfl fun K hK => ?_; simp (disch := omega) only [go_sem, ↓reduceIte, reduceCtorEq, pappend, plen]; refine hK _ _ ?_; clear hK K
            (repeat refine PW.seq ?_); refine PW.cond (t := _) rfl (fun h => ?_) (fun h => ?_)
            · have h4 : i < t.length := by have := of_decide_eq_true h; omega
              have hnext := ih (t.length - (i + 1)) (by omega) (i + 1) (by omega) rfl
              have hci := hcf i h4
              refine PW.skip ?_
              (repeat refine PW.seq ?_); refine PW.block ?_
              (repeat refine PW.seq ?_); refine PW.rg rfl fun K hK => ?_; simp (disch := omega) only [go_sem, ↓reduceIte, reduceCtorEq, pappend, plen]; refine hK _ _ ?_; clear hK K
              (repeat refine PW.seq ?_)
              refine PW.rgv (P := Try.prog) [5, 6, 7, 64, 65] 84 (.bool false) ?_ ?_ ?_
              · rfl
              · clear hnext ih
                simp (disch := omega) only [go_sem, ↓reduceIte, reduceCtorEq, pappend, plen, rg_cell, rg_len, fs_len, hci]
                (repeat' ((first | refine VO_cond (fun h => ?_) (fun h => ?_) | refine VOd_cond (fun h => ?_) (fun h => ?_) | refine And.intro (fun h => ?_) (fun h => ?_)) <;> (try simp only [Bool.not_eq_true', Bool.not_eq_false', decide_eq_true_eq, decide_eq_false_iff_not] at h) <;> simp (disch := omega) only [go_sem, ↓reduceIte, reduceCtorEq, pappend, plen, rg_cell, rg_len, fs_len, hci, h]))
                all_goals (simp_all [slot, Nat.beq] <;> first | rfl | omega | (rw [Bool.eq_iff_iff]; simp; done) | (rw [Bool.eq_iff_iff]; simp; omega))
              (repeat refine PW.seq ?_); refine PW.cond (t := _) rfl (fun h => ?_) (fun h => ?_)
              · cases h
              refine PW.skip ?_
              (repeat refine PW.seq ?_); refine PW.rg rfl fun K hK => ?_; simp (disch := omega) only [go_sem, ↓reduceIte, reduceCtorEq, pappend, plen]; refine hK _ _ ?_; clear hK K
              exact PL.at [5, 6, 7, 64, 65] hnext rfl rfl
            · refine PW.exit ?_
              (repeat refine PW.seq ?_); refine PW.rg rfl fun K hK => ?_; simp (disch := omega) only [go_sem, ↓reduceIte, reduceCtorEq, pappend, plen]; refine VCx.call (awake31 H) rfl ?_; simp (disch := omega) only [go_sem, ↓reduceIte, reduceCtorEq, pappend, plen]; refine hK _ _ ?_; clear hK K
              (refine PW.ret ⟨_, rfl, ?_⟩; first | refine .inl ⟨?_, rfl⟩ | refine Fin.base (.id' ?_ (.bool _)) | refine Fin.base (.id' ?_ (.int _ _)))
              rfl

end Go.Proofs.Ytnjnikafhbholaa.Sc
