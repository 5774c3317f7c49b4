/-
  The law PlanCopyable's contract.
-/
import Derived.Test.YtnjnikafhbholaaPt
import Derived.Test.YtnjnikafhbholaaPs
import Derived.Test.YtnjnikafhbholaaAw
namespace Go.Proofs.Ytnjnikafhbholaa.Sc
set_option linter.all false
set_option linter.unusedVariables false
set_option linter.unusedSimpArgs false
open Pm Ty Pl Go.RowKit

set_option maxRecDepth 10000 in
theorem law_copyable (raw L : List Int) (f g : Bool) (H : Heap) : CallOk Try.prog 6 [.slice (is raw) raw.length f, .slice (is L) L.length g] H (.bool true) H := by
  refine CallOk.body (F0 := [(0, .slice (is raw) raw.length f), (1, .slice (is L) L.length g)]) Try.func6 rfl Try.ntmps6 Try.results6 rfl (by kernel_rfl) rfl ?_
  (repeat refine PW.seq ?_); refine PW.rg rfl fun K hK => ?_; simp (disch := omega) only [go_sem, ↓reduceIte, reduceCtorEq, pappend, plen]; refine hK _ _ ?_; clear hK K; (repeat refine PW.seq ?_); refine PW.rg rfl fun K hK => ?_; simp (disch := omega) only [go_sem, ↓reduceIte, reduceCtorEq, pappend, plen]; refine hK _ _ ?_; clear hK K
  suffices hrest : ∀ (r : List Int) (f : Bool), r.length ≤ 300 → PW Try.prog _ _ [(0, .slice (is r) r.length f), (1, .slice (is L) L.length g)] H _ by
    (repeat refine PW.seq ?_); refine PW.cond (t := _) rfl (fun h => ?_) (fun h => ?_)
    · have h4 : 300 < raw.length := by have := of_decide_eq_true h; omega
      have e1 : (raw.take 300).length = 300 := by simp; omega
      (repeat refine PW.seq ?_); refine PW.rg rfl fun K hK => ?_; simp (disch := omega) only [go_sem, ↓reduceIte, reduceCtorEq, pappend, plen, is_len, is_take]; refine hK _ _ ?_; clear hK K
      refine PW.at [0, 1] (hrest (raw.take 300) false (by omega)) ?_ rfl
      rw [e1]
      rfl
    · have h4 : ¬ 300 < raw.length := by have := of_decide_eq_false h; omega
      refine PW.skip ?_
      exact PW.at [0, 1] (hrest raw f (by omega)) rfl rfl
  intro r f hr
  (repeat refine PW.seq ?_); refine PW.rg rfl fun K hK => ?_; simp (disch := omega) only [go_sem, ↓reduceIte, reduceCtorEq, pappend, plen]; refine hK _ _ ?_; clear hK K
  have hr1 := tn_range L 0 20 (by omega)
  obtain ⟨k, hk⟩ : ∃ k : Nat, (k : Int) = tn L 0 20 := ⟨(tn L 0 20).toNat, by omega⟩
  have ek : 1 + tn L 0 20 = (k : Int) + 1 := by omega
  have hn1 := next_ok L g 0 20 H.length (H ++ [tb L g 0]) (by simp) (by omega) (by omega)
  have hn2 := types_ok L g 1 k H.length (H ++ [tb L g 1]) (by simp) (by omega) (by omega)
  have hset : ∀ a b, (H ++ [tb L g a]).set H.length (tb L g b) = H ++ [tb L g b] := fun a b => gs H [] _ _ _ rfl
  have htb : (⟨59, 0, [.slice (is L) L.length g, .int .i64 0]⟩ : Blk) = tb L g 0 := rfl
  rw [hset] at hn1 hn2
  simp only [htb]
  (repeat refine PW.seq ?_); refine PW.rg rfl fun K hK => ?_; simp (disch := omega) only [go_sem, ↓reduceIte, reduceCtorEq, pappend, plen]
  refine VCx.call (hn1) rfl ?_; simp (disch := omega) only [go_sem, ↓reduceIte, reduceCtorEq, pappend, plen, ek]
  refine VCx.call (hn2) rfl ?_; simp (disch := omega) only [go_sem, ↓reduceIte, reduceCtorEq, pappend, plen]
  refine hK _ _ ?_; clear hK K
  have htl := tyR_len L 1 k
  generalize tyR L 1 k = t at *
  have ha2 : tyA L 1 k ≤ 1000 := by unfold tyA; split <;> omega
  generalize tyA L 1 k = a2 at *
  have hr3 := tn_range L a2 ((k + 1 : Nat) : Int) (by omega)
  have hn3 := next_ok L g a2 ((k + 1 : Nat) : Int) H.length (H ++ [tb L g a2]) (by simp) (by omega) (by omega)
  rw [hset] at hn3
  obtain ⟨b, hb⟩ : ∃ b : Nat, (b : Int) = tn L a2 ((k + 1 : Nat) : Int) := ⟨(tn L a2 ((k + 1 : Nat) : Int)).toNat, by omega⟩
  rw [← hb] at hn3
  have hbk : b < k + 1 := by omega
  (repeat refine PW.seq ?_); refine PW.rg rfl fun K hK => ?_; simp (disch := omega) only [go_sem, ↓reduceIte, reduceCtorEq, pappend, plen]
  refine VCx.call (hn3) rfl ?_; simp (disch := omega) only [go_sem, ↓reduceIte, reduceCtorEq, pappend, plen, is_len, htl, is_drop, is_take]
  refine hK _ _ ?_; clear hK K
  have hul : (List.take (k + 1 - b) (List.drop b t)).length = k + 1 - b := by simp; omega
  generalize List.take (k + 1 - b) (List.drop b t) = u at *
  have hbo : ∀ (n : Nat) (s : Nat → Bool) (K : Heap), n ≤ 1000000 → CallOk Try.prog 35 [.slice (fs (rg n s)) n false, .slice (fs (rg n s)) n false] K (.bool true) K := fun n s K hn => by
    have := bools_ok (rg n s) (rg n s) false false K (by rw [rg_len]; exact hn) (by rw [rg_len]; exact hn)
    rw [rg_len, decide_eq_true rfl] at this
    exact this
  rw [← hul]
  (repeat' (first | refine PW.seq ?_ | refine PW.skip ?_ | refine PW.block ?_ | (refine PW.rg rfl fun K hK => ?_; simp (disch := omega) only [go_sem, ↓reduceIte, reduceCtorEq, pappend, plen]) | (refine PW.draw mix (by kernel_rfl) fun K hK => ?_; simp (disch := omega) only [go_sem, ↓reduceIte, reduceCtorEq, pappend, plen]) | ((first | refine VO_cond (fun h => ?_) (fun h => ?_) | refine VOd_cond (fun h => ?_) (fun h => ?_) | refine And.intro (fun h => ?_) (fun h => ?_)) <;> (try simp only [Bool.not_eq_true', Bool.not_eq_false', decide_eq_true_eq, decide_eq_false_iff_not] at h) <;> simp (disch := omega) only [go_sem, ↓reduceIte, reduceCtorEq, pappend, plen, h]) | (refine VCx.call (copy_ok r f _ (by omega)) rfl ?_; simp (disch := omega) only [go_sem, ↓reduceIte, reduceCtorEq, pappend, plen]) | (refine VCx.call (copy_ok u false _ (by omega)) rfl ?_; simp (disch := omega) only [go_sem, ↓reduceIte, reduceCtorEq, pappend, plen]) | (refine VCx.call (copy_ref r f _ (by omega)) rfl ?_; simp (disch := omega) only [go_sem, ↓reduceIte, reduceCtorEq, pappend, plen]) | (refine VCx.call (copy_ref u false _ (by omega)) rfl ?_; simp (disch := omega) only [go_sem, ↓reduceIte, reduceCtorEq, pappend, plen]) | (refine VCx.call (hbo r.length _ _ (by omega)) rfl ?_; simp (disch := omega) only [go_sem, ↓reduceIte, reduceCtorEq, pappend, plen]) | (refine VCx.call (hbo u.length _ _ (by omega)) rfl ?_; simp (disch := omega) only [go_sem, ↓reduceIte, reduceCtorEq, pappend, plen]) | (refine VCx.call (awake31 _) rfl ?_; simp (disch := omega) only [go_sem, ↓reduceIte, reduceCtorEq, pappend, plen]) | (refine VCy.call (copy_ok r f _ (by omega)) rfl ?_; simp (disch := omega) only [go_sem, ↓reduceIte, reduceCtorEq, pappend, plen]) | (refine VCy.call (copy_ok u false _ (by omega)) rfl ?_; simp (disch := omega) only [go_sem, ↓reduceIte, reduceCtorEq, pappend, plen]) | (refine VCy.call (copy_ref r f _ (by omega)) rfl ?_; simp (disch := omega) only [go_sem, ↓reduceIte, reduceCtorEq, pappend, plen]) | (refine VCy.call (copy_ref u false _ (by omega)) rfl ?_; simp (disch := omega) only [go_sem, ↓reduceIte, reduceCtorEq, pappend, plen]) | (refine VCy.call (hbo r.length _ _ (by omega)) rfl ?_; simp (disch := omega) only [go_sem, ↓reduceIte, reduceCtorEq, pappend, plen]) | (refine VCy.call (hbo u.length _ _ (by omega)) rfl ?_; simp (disch := omega) only [go_sem, ↓reduceIte, reduceCtorEq, pappend, plen]) | (refine VCy.call (awake31 _) rfl ?_; simp (disch := omega) only [go_sem, ↓reduceIte, reduceCtorEq, pappend, plen]) | (refine hK _ _ ?_; clear hK K) | (refine PW.cond (t := _) rfl (fun h => ?_) (fun h => ?_) <;> (try (cases h; done)) <;> (try simp only [Bool.not_eq_true', Bool.not_eq_false', decide_eq_true_eq, decide_eq_false_iff_not] at h))))
  refine PW.ret ⟨_, rfl, ?_⟩
  exact Fin.base (.id (.bool _))

end Go.Proofs.Ytnjnikafhbholaa.Sc
