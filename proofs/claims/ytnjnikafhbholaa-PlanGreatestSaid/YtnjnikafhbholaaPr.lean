/-
  The law PlanGreatest's contract.
-/
import Derived.Test.YtnjnikafhbholaaPo
import Derived.Test.YtnjnikafhbholaaPp
namespace Go.Proofs.Ytnjnikafhbholaa.Sc
set_option linter.all false
set_option linter.unusedVariables false
set_option linter.unusedSimpArgs false
open Pm Ty Pl Go.RowKit

theorem pshl1_i64 (k' : IntKind) (s : Nat) (h : s ≤ 9) : pint .shl .i64 1 k' (s : Int) = some (.int .i64 ((2 ^ s : Nat) : Int)) := by
  have h3 : s = 0 ∨ s = 1 ∨ s = 2 ∨ s = 3 ∨ s = 4 ∨ s = 5 ∨ s = 6 ∨ s = 7 ∨ s = 8 ∨ s = 9 := by omega
  rcases h3 with h3 | h3 | h3 | h3 | h3 | h3 | h3 | h3 | h3 | h3 <;> (subst h3; rfl)
theorem pshr_i64 (k' : IntKind) (V s : Nat) (h : s ≤ 9) : pint .shr .i64 (V : Int) k' (s : Int) = some (.int .i64 ((V / 2 ^ s : Nat) : Int)) := by
  simp only [pint]
  rw [if_neg (by omega), show min (s : Int).toNat IntKind.i64.bits = s by simp [IntKind.bits]; omega, show (2 : Int) ^ s = ((2 ^ s : Nat) : Int) by simp, fdivN]
theorem pand1_i64 (V : Nat) (h : V < 1024) : pint .and .i64 (V : Int) .i64 1 = some (.int .i64 ((V % 2 : Nat) : Int)) := by
  have key : ∀ v : Nat, v < 1024 → IntKind.i64.wrap (((BitVec.ofInt 64 (v : Int) &&& BitVec.ofInt 64 1).toNat : Nat) : Int) = ((v % 2 : Nat) : Int) := by decide +kernel
  show some (PV.int .i64 (IntKind.i64.wrap (((BitVec.ofInt 64 (V : Int) &&& BitVec.ofInt 64 1).toNat : Nat) : Int))) = _
  rw [key V h]
theorem bit1 (w : Nat) : (((w % 2 : Nat) : Int) == 1) = decide (w % 2 = 1) := by
  have : w % 2 = 0 ∨ w % 2 = 1 := by omega
  rcases this with e | e <;> (rw [e]; rfl)
/-- The set that a number stands for. -/
def sb (v k : Nat) : Bool := decide (v / 2 ^ k % 2 = 1)
/-- Is one of its first frames not copyable? -/
def mo (t : List Int) (v : Nat) : Nat → Bool
  | 0 => false
  | i + 1 => mo t v i || (sb v i && !(arr t t.length i))
theorem mo_ex (t : List Int) (v : Nat) : ∀ i, mo t v i = true → ∃ j, j < i ∧ sb v j = true ∧ arr t t.length j = false
  | 0, h => by cases h
  | i + 1, h => by
    simp only [mo, Bool.or_eq_true, Bool.and_eq_true, Bool.not_eq_true'] at h
    rcases h with h | h
    · obtain ⟨j, h1, h2⟩ := mo_ex t v i h
      exact ⟨j, by omega, h2⟩
    · exact ⟨i, by omega, h.1, h.2⟩

set_option maxRecDepth 10000 in
theorem law_greatest (q : List UInt8) (f : Bool) (H : Heap) : CallOk Try.prog 7 [.slice (bs q) q.length f] H (.bool true) H := by
  refine CallOk.body (F0 := [(0, .slice (bs q) q.length f)]) Try.func7 rfl Try.ntmps7 Try.results7 rfl (by kernel_rfl) rfl ?_
  (repeat refine PW.seq ?_); refine PW.rg rfl fun K hK => ?_; simp (disch := omega) only [go_sem, ↓reduceIte, reduceCtorEq, pappend, plen]; refine hK _ _ ?_; clear hK K; (repeat refine PW.seq ?_); refine PW.rg rfl fun K hK => ?_; simp (disch := omega) only [go_sem, ↓reduceIte, reduceCtorEq, pappend, plen]; refine hK _ _ ?_; clear hK K; (repeat refine PW.seq ?_); refine PW.rg rfl fun K hK => ?_; simp (disch := omega) only [go_sem, ↓reduceIte, reduceCtorEq, pappend, plen]; refine hK _ _ ?_; clear hK K
  (repeat refine PW.seq ?_)
  refine PW.view (Vs.ghost 3 3 1 rfl) ?_
  refine PW.block (PW.loop ?_)
  suffices hloop : ∀ (k : Nat), k ≤ q.length → k ≤ 9 → PL Try.prog _ _ [(0, .slice (bs q) q.length f), (3, .msl H.length k 0 k 1 true), (4, .int .i64 (k : Int))] (H ++ [⟨3, k, is (tt q k)⟩]) _ by
    exact PL.at [0, 3, 4] (hloop 0 (Nat.zero_le _) (by omega)) rfl rfl
  intro k hk hk2
  induction hm : 9 - k using Nat.strongRecOn generalizing k with
  | _ m ih =>
    refine PL.round ?_
    (repeat refine PW.seq ?_)
    refine PW.rgv (P := Try.prog) [0, 3, 4] 17 (.bool (decide (k < q.length) && decide (k < 9))) ?_ ?_ ?_
    · rfl
    · simp (disch := omega) only [go_sem, ↓reduceIte, reduceCtorEq, pappend, plen]
      (repeat' ((first | refine VO_cond (fun h => ?_) (fun h => ?_) | refine VOd_cond (fun h => ?_) (fun h => ?_) | refine And.intro (fun h => ?_) (fun h => ?_)) <;> (try simp only [Bool.not_eq_true', Bool.not_eq_false', decide_eq_true_eq, decide_eq_false_iff_not] at h) <;> simp (disch := omega) only [go_sem, ↓reduceIte, reduceCtorEq, pappend, plen, h]))
      all_goals (simp_all [slot, Nat.beq] <;> first | rfl | omega | (rw [Bool.eq_iff_iff]; simp; done) | (rw [Bool.eq_iff_iff]; simp; omega))
    (repeat refine PW.seq ?_); refine PW.cond (t := _) rfl (fun h => ?_) (fun h => ?_)
    · have h4 : k < q.length ∧ k < 9 := by simpa using h
      have hr := byt_range q k
      have hnext := ih (9 - (k + 1)) (by omega) (k + 1) (by omega) (by omega) rfl
      rw [tt_snoc, is_append] at hnext
      have hc : (is (tt q k)).length = k := by rw [is_len, tt_len]
      have hc1 : (is (tt q k) ++ [PV.int .i64 (1 + byt q k % 3)]).length = k + 1 := by rw [List.length_append, hc]; rfl
      refine PW.skip ?_; (repeat refine PW.seq ?_); refine PW.block ?_
      (repeat refine PW.seq ?_); refine PW.rg rfl fun K hK => ?_; simp (disch := omega) only [go_sem, ↓reduceIte, reduceCtorEq, pappend, plen, bs_get, length_bs, tmod_pos, hc, tt_len, is_len]; refine hK _ _ ?_; clear hK K
      (repeat refine PW.seq ?_); refine PW.rg rfl fun K hK => ?_; simp (disch := omega) only [go_sem, ↓reduceIte, reduceCtorEq, pappend, plen]; refine hK _ _ ?_; clear hK K
      refine PL.at [0, 3, 4] hnext ?_ ?_
      · simp (disch := omega) only [go_sem, ↓reduceIte, reduceCtorEq, pappend, plen]
        rw [hc1]; rfl
      · rw [hc1]; rfl
    · refine PW.exit ?_
      clear ih hm h
      obtain ⟨t, ht⟩ : ∃ t, tt q k = t := ⟨_, rfl⟩
      have htl : t.length = k := by rw [← ht, tt_len]
      rw [ht]
      (repeat refine PW.seq ?_)
      refine PW.view (Vs.trim (H1 := H) (F1 := [(3, .slice (is t) t.length false)]) (fun h => h) (Nat.le_refl _) rfl ⟨?_, trivial⟩) ?_
      · simp only [slot, Nat.beq, kp, List.map]
        rw [htl]
        exact Fz.mslC (e := 3) (xs := is t) (Nat.le_refl _) (by simp) (by rw [is_len]; omega) (FzC.refl (is_scoped _ _))
      have htn : t.length ≤ 9 := by omega
      clear ht htl hk hk2
      (repeat refine PW.seq ?_); refine PW.rg rfl fun K hK => ?_; simp (disch := omega) only [go_sem, ↓reduceIte, reduceCtorEq, pappend, plen]; refine VCx.call (copy_ok t false H (by omega)) rfl ?_; simp (disch := omega) only [go_sem, ↓reduceIte, reduceCtorEq, pappend, plen]; refine hK _ _ ?_; clear hK K
      have hca : clo t t.length (arr t t.length) = true := clo_true.2 (arr_closed t t.length)
      (repeat refine PW.seq ?_)
      refine PW.rgv (P := Try.prog) [3, 5] 42 (.bool false) ?_ ?_ ?_
      · rfl
      · simp (disch := omega) only [go_sem, ↓reduceIte, reduceCtorEq, pappend, plen]
        (repeat' (first | ((first | refine VO_cond (fun h => ?_) (fun h => ?_) | refine VOd_cond (fun h => ?_) (fun h => ?_) | refine And.intro (fun h => ?_) (fun h => ?_)) <;> (try simp only [Bool.not_eq_true', Bool.not_eq_false', decide_eq_true_eq, decide_eq_false_iff_not] at h) <;> simp (disch := omega) only [go_sem, ↓reduceIte, reduceCtorEq, pappend, plen, hca, h]) | (refine VCx.call (closed_ref t (arr t t.length) false false H (by omega)) rfl ?_; simp (disch := omega) only [go_sem, ↓reduceIte, reduceCtorEq, pappend, plen, hca]) | (refine VCy.call (closed_ref t (arr t t.length) false false H (by omega)) rfl ?_; simp (disch := omega) only [go_sem, ↓reduceIte, reduceCtorEq, pappend, plen, hca])))
        all_goals (simp_all [slot, Nat.beq] <;> first | rfl | omega | (rw [Bool.eq_iff_iff]; simp; done) | (rw [Bool.eq_iff_iff]; simp; omega))
      (repeat refine PW.seq ?_); refine PW.cond (t := _) rfl (fun h => ?_) (fun h => ?_)
      · cases h
      refine PW.skip ?_
      (repeat refine PW.seq ?_); refine PW.rg rfl fun K hK => ?_; simp (disch := omega) only [go_sem, ↓reduceIte, reduceCtorEq, pappend, plen]; refine hK _ _ ?_; clear hK K
      (repeat refine PW.seq ?_); refine PW.block (PW.loop ?_)
      suffices hloop : ∀ (v : Nat), v ≤ 2 ^ t.length → PL Try.prog _ _ [(3, .slice (is t) t.length false), (5, .slice (fs (rg t.length (arr t t.length))) t.length false), (6, .int .i64 (v : Int))] H _ by
        exact PL.at [3, 5, 6] (hloop 0 (Nat.zero_le _)) rfl rfl
      have h512 : 2 ^ t.length ≤ 512 := Nat.pow_le_pow_right (n := 2) (by omega) htn
      intro v hv
      induction hm : 2 ^ t.length - v using Nat.strongRecOn generalizing v with
      | _ m ih =>
        refine PL.round ?_
        (repeat refine PW.seq ?_); refine PW.rg rfl fun K hK => ?_; simp (disch := omega) only [go_sem, ↓reduceIte, reduceCtorEq, pappend, plen, pshl1_i64, wu64]; refine hK _ _ ?_; clear hK K
        (repeat refine PW.seq ?_); refine PW.cond (t := _) rfl (fun h => ?_) (fun h => ?_)
        · have h4 : v < 2 ^ t.length := by have := of_decide_eq_true h; omega
          have hnx := ih (2 ^ t.length - (v + 1)) (by omega) (v + 1) (by omega) rfl
          refine PW.skip ?_
          clear ih
          (repeat refine PW.seq ?_); refine PW.block ?_
          (repeat refine PW.seq ?_); refine PW.rg rfl fun K hK => ?_; simp (disch := omega) only [go_sem, ↓reduceIte, reduceCtorEq, pappend, plen]; refine hK _ _ ?_; clear hK K; (repeat refine PW.seq ?_); refine PW.rg rfl fun K hK => ?_; simp (disch := omega) only [go_sem, ↓reduceIte, reduceCtorEq, pappend, plen]; refine hK _ _ ?_; clear hK K; (repeat refine PW.seq ?_); refine PW.rg rfl fun K hK => ?_; simp (disch := omega) only [go_sem, ↓reduceIte, reduceCtorEq, pappend, plen]; refine hK _ _ ?_; clear hK K
          (repeat refine PW.seq ?_); refine PW.block (PW.loop ?_)
          suffices hloop : ∀ (i : Nat), i ≤ t.length → PL Try.prog _ _ [(3, .slice (is t) t.length false), (5, .slice (fs (rg t.length (arr t t.length))) t.length false), (6, .int .i64 (v : Int)), (7, .msl H.length 0 0 t.length 1 true), (8, .bool (mo t v i)), (55, .int .i64 (t.length : Int)), (56, .int .i64 (i : Int))] (H ++ [⟨4, 0, fs (rg t.length fun j => decide (j < i) && sb v j)⟩]) _ by
            refine PL.at [3, 5, 6, 7, 8, 55, 56] (hloop 0 (Nat.zero_le _)) rfl ?_
            rw [show (fun j => decide (j < 0) && sb v j) = fun _ => false from by funext j; simp, rg_false]; rfl
          intro i hi
          induction hm2 : t.length - i using Nat.strongRecOn generalizing i with
          | _ m2 ih =>
            refine PL.round ?_; (repeat refine PW.seq ?_); refine PW.rg rfl fun K hK => ?_; simp (disch := omega) only [go_sem, ↓reduceIte, reduceCtorEq, pappend, plen]; refine hK _ _ ?_; clear hK K
            (repeat refine PW.seq ?_); refine PW.cond (t := _) rfl (fun h => ?_) (fun h => ?_)
            · have h5 : i < t.length := by have := of_decide_eq_true h; omega
              have hnext := ih (t.length - (i + 1)) (by omega) (i + 1) (by omega) rfl
              have hset : (fs (rg t.length fun j => decide (j < i) && sb v j)).set i (.bool (sb v i)) = fs (rg t.length fun j => decide (j < i + 1) && sb v j) := by
                rw [rg_set]
                rw [rg_ext t.length (g' := fun j => decide (j < i + 1) && sb v j) (fun j hj => by
                  by_cases e : j = i
                  · subst e; simp
                  · rw [if_neg e]
                    have : (j < i) = (j < i + 1) := by apply propext; omega
                    simp only [this])]
              have hii : (fs (rg t.length fun j => decide (j < i + 1) && sb v j))[i]? = some (.bool (sb v i)) := by rw [rg_cell _ _ _ h5]; simp
              have hdiv : v / 2 ^ i < 1024 := Nat.lt_of_le_of_lt (Nat.div_le_self _ _) (by omega)
              have hbit : (((v / 2 ^ i % 2 : Nat) : Int) == 1) = sb v i := bit1 _
              refine PW.skip ?_
              (repeat refine PW.seq ?_); refine PW.block ?_
              (repeat refine PW.seq ?_); refine PW.rg rfl fun K hK => ?_; simp (disch := omega) only [go_sem, ↓reduceIte, reduceCtorEq, pappend, plen]; refine hK _ _ ?_; clear hK K
              (repeat refine PW.seq ?_); refine PW.rg rfl fun K hK => ?_; simp (disch := omega) only [go_sem, ↓reduceIte, reduceCtorEq, pappend, plen, wu64, pshr_i64, pand1_i64, hbit, rg_len, fs_len, hset]; refine hK _ _ ?_; clear hK K
              (repeat refine PW.seq ?_)
              refine PW.rgv (P := Try.prog) [3, 5, 6, 7, 55, 56] 8 (.bool (mo t v (i + 1))) ?_ ?_ ?_
              · rfl
              · clear hnext ih
                simp only [mo]
                cases hmo : mo t v i
                · cases hsb : sb v i
                  · simp (disch := omega) only [go_sem, ↓reduceIte, reduceCtorEq, pappend, plen, hii, hsb, hmo, rg_len, fs_len]
                    (repeat' ((first | refine VO_cond (fun h => ?_) (fun h => ?_) | refine VOd_cond (fun h => ?_) (fun h => ?_) | refine And.intro (fun h => ?_) (fun h => ?_)) <;> (try simp only [Bool.not_eq_true', Bool.not_eq_false', decide_eq_true_eq, decide_eq_false_iff_not] at h) <;> simp (disch := omega) only [go_sem, ↓reduceIte, reduceCtorEq, pappend, plen, hii, hsb, hmo, rg_len, fs_len, h]))
                    all_goals (simp_all [slot, Nat.beq] <;> first | rfl | omega | (rw [Bool.eq_iff_iff]; simp; done) | (rw [Bool.eq_iff_iff]; simp; omega))
                  · simp (disch := omega) only [go_sem, ↓reduceIte, reduceCtorEq, pappend, plen, hii, hsb, hmo, rg_len, fs_len, rg_cell]
                    (repeat' ((first | refine VO_cond (fun h => ?_) (fun h => ?_) | refine VOd_cond (fun h => ?_) (fun h => ?_) | refine And.intro (fun h => ?_) (fun h => ?_)) <;> (try simp only [Bool.not_eq_true', Bool.not_eq_false', decide_eq_true_eq, decide_eq_false_iff_not] at h) <;> simp (disch := omega) only [go_sem, ↓reduceIte, reduceCtorEq, pappend, plen, hii, hsb, hmo, rg_len, fs_len, rg_cell, h]))
                    all_goals (simp_all [slot, Nat.beq] <;> first | rfl | omega | (rw [Bool.eq_iff_iff]; simp; done) | (rw [Bool.eq_iff_iff]; simp; omega))
                · simp (disch := omega) only [go_sem, ↓reduceIte, reduceCtorEq, pappend, plen, hmo]
                  (repeat' ((first | refine VO_cond (fun h => ?_) (fun h => ?_) | refine VOd_cond (fun h => ?_) (fun h => ?_) | refine And.intro (fun h => ?_) (fun h => ?_)) <;> (try simp only [Bool.not_eq_true', Bool.not_eq_false', decide_eq_true_eq, decide_eq_false_iff_not] at h) <;> simp (disch := omega) only [go_sem, ↓reduceIte, reduceCtorEq, pappend, plen, hmo, h]))
                  all_goals (simp_all [slot, Nat.beq] <;> first | rfl | omega | (rw [Bool.eq_iff_iff]; simp; done) | (rw [Bool.eq_iff_iff]; simp; omega))
              (repeat refine PW.seq ?_); refine PW.rg rfl fun K hK => ?_; simp (disch := omega) only [go_sem, ↓reduceIte, reduceCtorEq, pappend, plen]; refine hK _ _ ?_; clear hK K
              exact PL.at [3, 5, 6, 7, 8, 55, 56] hnext rfl rfl
            · have h5 : i = t.length := by have := of_decide_eq_false h; omega
              subst h5
              clear ih
              refine PW.exit ?_
              rw [rg_ext t.length (g := fun j => decide (j < t.length) && sb v j) (g' := sb v) (fun j hj => by simp [hj])]
              have hcl : mo t v t.length = true → clo t t.length (sb v) = false := fun hmo => by
                cases hc : clo t t.length (sb v)
                · rfl
                · obtain ⟨j, h6, h7, h8⟩ := mo_ex t v t.length hmo
                  have := arr_great t t.length (sb v) (clo_true.1 hc) j h6 h7
                  rw [h8] at this; cases this
              have hcall : CallOk Try.prog 38 [.slice (is t) t.length false, .msl H.length 0 0 t.length 1 true] (H ++ [⟨4, 0, fs (rg t.length (sb v))⟩]) (.bool (clo t t.length (sb v))) (H ++ [⟨4, 0, fs (rg t.length (sb v))⟩]) :=
                CallOk.borrow (closed_ref t (sb v) false false [] (by omega)) ⟨.id (sl_scoped (is_scoped 0 t)), Fz.mslC (e := 4) (xs := fs (rg t.length (sb v))) (Nat.zero_le _) (by simp) (by rw [fs_len, rg_len]; omega) (FzC.refl (fs_scoped _ _)), trivial⟩ (.bool _)
              (repeat refine PW.seq ?_)
              refine PW.rgv (P := Try.prog) [3, 5, 6] 88 (.bool false) ?_ ?_ ?_
              · rfl
              · cases hmo : mo t v t.length
                · simp (disch := omega) only [go_sem, ↓reduceIte, reduceCtorEq, pappend, plen, hmo]
                  (repeat' ((first | refine VO_cond (fun h => ?_) (fun h => ?_) | refine VOd_cond (fun h => ?_) (fun h => ?_) | refine And.intro (fun h => ?_) (fun h => ?_)) <;> (try simp only [Bool.not_eq_true', Bool.not_eq_false', decide_eq_true_eq, decide_eq_false_iff_not] at h) <;> simp (disch := omega) only [go_sem, ↓reduceIte, reduceCtorEq, pappend, plen, hmo, h]))
                  all_goals (simp_all [slot, Nat.beq] <;> first | rfl | omega | (rw [Bool.eq_iff_iff]; simp; done) | (rw [Bool.eq_iff_iff]; simp; omega))
                · have hc := hcl hmo
                  rw [hc] at hcall
                  simp (disch := omega) only [go_sem, ↓reduceIte, reduceCtorEq, pappend, plen, hmo]
                  (repeat' (first | ((first | refine VO_cond (fun h => ?_) (fun h => ?_) | refine VOd_cond (fun h => ?_) (fun h => ?_) | refine And.intro (fun h => ?_) (fun h => ?_)) <;> (try simp only [Bool.not_eq_true', Bool.not_eq_false', decide_eq_true_eq, decide_eq_false_iff_not] at h) <;> simp (disch := omega) only [go_sem, ↓reduceIte, reduceCtorEq, pappend, plen, hmo, h]) | (refine VCx.call (hcall) rfl ?_; simp (disch := omega) only [go_sem, ↓reduceIte, reduceCtorEq, pappend, plen, hmo]) | (refine VCy.call (hcall) rfl ?_; simp (disch := omega) only [go_sem, ↓reduceIte, reduceCtorEq, pappend, plen, hmo])))
                  all_goals (simp_all [slot, Nat.beq] <;> first | rfl | omega | (rw [Bool.eq_iff_iff]; simp; done) | (rw [Bool.eq_iff_iff]; simp; omega))
              (repeat refine PW.seq ?_); refine PW.cond (t := _) rfl (fun h => ?_) (fun h => ?_)
              · cases h
              refine PW.skip ?_
              refine PW.view (Vs.trim (H1 := H) (F1 := [(3, .slice (is t) t.length false), (5, .slice (fs (rg t.length (arr t t.length))) t.length false), (6, .int .i64 (v : Int))]) (fun h => h) (Nat.le_refl _) rfl ⟨.id (sl_scoped (is_scoped _ _)), .id (sl_scoped (fs_scoped _ _)), .id (.int _ _), trivial⟩) ?_
              (repeat refine PW.seq ?_); refine PW.rg rfl fun K hK => ?_; simp (disch := omega) only [go_sem, ↓reduceIte, reduceCtorEq, pappend, plen]; refine hK _ _ ?_; clear hK K
              exact PL.at [3, 5, 6] hnx rfl rfl
        · refine PW.exit ?_
          (repeat refine PW.seq ?_); refine PW.rg rfl fun K hK => ?_; simp (disch := omega) only [go_sem, ↓reduceIte, reduceCtorEq, pappend, plen]; refine VCx.call (awake31 H) rfl ?_; simp (disch := omega) only [go_sem, ↓reduceIte, reduceCtorEq, pappend, plen]; refine hK _ _ ?_; clear hK K
          (refine PW.ret ⟨_, rfl, ?_⟩; first | refine .inl ⟨?_, rfl⟩ | refine Fin.base (.id' ?_ (.bool _)) | refine Fin.base (.id' ?_ (.int _ _)))
          rfl

end Go.Proofs.Ytnjnikafhbholaa.Sc
