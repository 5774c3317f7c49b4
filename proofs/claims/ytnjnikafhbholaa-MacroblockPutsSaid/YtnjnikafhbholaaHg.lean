/-
  Contracts of chapter 10: the writer of macroblocks, parts 3 and 4.
-/
import Derived.Test.YtnjnikafhbholaaHd
import Derived.Test.YtnjnikafhbholaaPmF
namespace Go.Proofs.Ytnjnikafhbholaa.Sc
set_option linter.all false
set_option linter.unusedVariables false
set_option linter.unusedSimpArgs false
open Pm Ty Go.RowKit

theorem pC_setq (s : St) (w : Nat) (c : Cx) (mi : Nat) (x : Int) : (pC s w c mi).set 0 (.int .i64 x) = pC ⟨x, s.da, s.db, s.dc, s.va, s.vb, s.vc, s.vd⟩ w c mi := rfl
theorem chgP (H : Heap) (i j : Nat) (M : List Bool) (x0 x1 x3 : Blk) (c : Cx) (m : Mb) (s : St) (hi : i < H.length) (hj : j < H.length) (hne : i ≠ j) (hl : M.length ≤ 800000000) (hdl : -30 ≤ m.dl ∧ m.dl ≤ 30) (hq : 1 ≤ s.q ∧ s.q ≤ 31) :
    CallOk Try.prog 105 [.ptr (H.length + 4) 0 0] (pH H i j M x0 x1 x3 c m s) (.tup []) (pH H i j (M ++ b3M c m) x0 x1 x3 c m (s3M m s)) := by
  have h4 := fun M => pH_4 H i j M x0 x1 x3 c m s
  have h2 := fun M => pH_2 H i j M x0 x1 x3 c m s
  have ho := hl_ok m (H.length + 2) _ (h2 M)
  have bo := fun K => bcx_ok c K
  have fl := fun M b hl => flagP H i j M x0 x1 x3 c m s b hi hj hne hl
  have ps := fun M v hv hl => psP H i j M x0 x1 x3 c m s v hi hj hne hv hl
  have st := fun M B => pH_set H i j M x0 x1 x3 c m s B
  have k4 : (mbc m)[4]? = some (.bool m.fd) := rfl
  have k17 : (mbc m)[17]? = some (.int .i64 m.dl) := rfl
  have e3 : b3M c m = if hlM m then (if bcx c then [m.fd] else []) ++ sg m.dl else [] := rfl
  have es : s3M m s = if hlM m then ⟨s.q + m.dl, s.da, s.db, s.dc, s.va, s.vb, s.vc, s.vd⟩ else s := rfl
  generalize hlM m = hv at *
  generalize bcx c = bv at *
  refine CallOk.body (F0 := [(0, .ptr (H.length + 4) 0 0)]) Try.func105 rfl Try.ntmps105 Try.results105 rfl (by kernel_rfl) rfl ?_
  cases hv with
  | false =>
    rw [if_neg (by decide)] at e3 es
    rw [e3, es, List.append_nil]
    (repeat' (first | refine PW.seq ?_ | refine PW.skip ?_ | refine PW.block ?_ | (refine PW.rg rfl fun K hK => ?_; simp (maxSteps := 3000000) (disch := omega) only [go_sem, ↓reduceIte, reduceCtorEq, pappend, plen, h4, h2, pB, pC]) | (refine PW.draw mix (by kernel_rfl) fun K hK => ?_; simp (maxSteps := 3000000) (disch := omega) only [go_sem, ↓reduceIte, reduceCtorEq, pappend, plen, h4, h2, pB, pC]) | (refine PW.drawg mix (by kernel_rfl) fun K hK => ?_; simp (maxSteps := 3000000) (disch := omega) only [go_sem, ↓reduceIte, reduceCtorEq, pappend, plen, h4, h2, pB, pC]) | (refine PW.drawt [] [] mix (by kernel_rfl) fun K hK => ?_; simp (maxSteps := 3000000) (disch := omega) only [go_sem, ↓reduceIte, reduceCtorEq, pappend, plen, h4, h2, pB, pC]) | ((first | refine VO_cond (fun h => ?_) (fun h => ?_) | refine VOd_cond (fun h => ?_) (fun h => ?_) | refine VOg_cond (fun h => ?_) (fun h => ?_) | refine VOh_cond (fun h => ?_) (fun h => ?_) | refine VOi_cond (fun h => ?_) (fun h => ?_) | refine And.intro (fun h => ?_) (fun h => ?_)) <;> (try simp only [Bool.not_eq_true', Bool.not_eq_false', decide_eq_true_eq, decide_eq_false_iff_not] at h) <;> simp (maxSteps := 3000000) (disch := omega) only [go_sem, ↓reduceIte, reduceCtorEq, pappend, plen, h4, h2, pB, pC, h]) | (refine VCx.call (ho) rfl ?_; simp (maxSteps := 3000000) (disch := omega) only [go_sem, ↓reduceIte, reduceCtorEq, pappend, plen, h4, h2, pB, pC]) | (refine VCy.call (ho) rfl ?_; simp (maxSteps := 3000000) (disch := omega) only [go_sem, ↓reduceIte, reduceCtorEq, pappend, plen, h4, h2, pB, pC]) | (refine VCz.call (fun _ => ho) rfl ?_; simp (maxSteps := 3000000) (disch := omega) only [go_sem, ↓reduceIte, reduceCtorEq, pappend, plen, h4, h2, pB, pC]) | (refine VCk.call (fun _ _ => ho) rfl ?_; simp (maxSteps := 3000000) (disch := omega) only [go_sem, ↓reduceIte, reduceCtorEq, pappend, plen, h4, h2, pB, pC]) | (refine VCj.now (ho) rfl ?_; simp (maxSteps := 3000000) (disch := omega) only [go_sem, ↓reduceIte, reduceCtorEq, pappend, plen, h4, h2, pB, pC]) | (refine hK _ _ ?_; clear hK K) | (refine PW.cond (t := _) rfl (fun h => ?_) (fun h => ?_) <;> (try (cases h; done)) <;> (try simp only [Bool.not_eq_true', Bool.not_eq_false', decide_eq_true_eq, decide_eq_false_iff_not] at h))))
    exact PW.ret (Exists.intro _ (And.intro rfl Fin.now))
  | true =>
    rw [if_pos rfl] at e3 es
    suffices hrest : ∀ M1, M1 ++ sg m.dl = M ++ b3M c m → M1.length ≤ 800000001 → PW Try.prog _ _ [(0, .ptr (H.length + 4) 0 0)] (pH H i j M1 x0 x1 x3 c m s) _ by
      (repeat refine PW.seq ?_); refine PW.rg rfl fun K hK => ?_; simp (maxSteps := 3000000) (disch := omega) only [go_sem, ↓reduceIte, reduceCtorEq, pappend, plen, h4, pB, pC]; refine VCx.call (ho) rfl ?_; simp (maxSteps := 3000000) (disch := omega) only [go_sem, ↓reduceIte, reduceCtorEq, pappend, plen, h4, pB, pC]; refine hK _ _ ?_; clear hK K
      (repeat refine PW.seq ?_); refine PW.cond (t := _) rfl (fun h => ?_) (fun h => ?_)
      · cases h
      refine PW.skip ?_
      (repeat refine PW.seq ?_); refine PW.rg rfl fun K hK => ?_; simp (maxSteps := 3000000) (disch := omega) only [go_sem, ↓reduceIte, reduceCtorEq, pappend, plen, h4, pB, pC]; refine VCx.call (bo _) rfl ?_; simp (maxSteps := 3000000) (disch := omega) only [go_sem, ↓reduceIte, reduceCtorEq, pappend, plen, h4, pB, pC]; refine hK _ _ ?_; clear hK K
      cases bv with
      | false =>
        (repeat refine PW.seq ?_); refine PW.cond (t := _) rfl (fun h => ?_) (fun h => ?_)
        · cases h
        refine PW.skip ?_
        rw [if_neg (by decide), List.nil_append] at e3
        exact PW.at [0] (hrest M (by rw [e3]) (by omega)) rfl rfl
      | true =>
        (repeat refine PW.seq ?_); refine PW.cond (t := _) rfl (fun h => ?_) (fun h => ?_)
        rotate_left
        · cases h
        rw [if_pos rfl] at e3
        have fl1 := fl M m.fd (by omega)
        (repeat refine PW.seq ?_); refine PW.rg rfl fun K hK => ?_; simp (maxSteps := 3000000) (disch := omega) only [go_sem, ↓reduceIte, reduceCtorEq, pappend, plen, h4, pB, pC, h2, mB, k4]
        refine VCx.call (fl1) rfl ?_; simp (maxSteps := 3000000) (disch := omega) only [go_sem, ↓reduceIte, reduceCtorEq, pappend, plen]; refine hK _ _ ?_; clear hK K
        exact PW.at [0] (hrest (M ++ [m.fd]) (by rw [e3, List.append_assoc]) (by simp; omega)) rfl rfl
    intro M1 hM1 hl1
    have ps1 := ps M1 m.dl (by omega) (by omega)
    rw [hM1] at ps1
    (repeat refine PW.seq ?_); refine PW.drawt [] [] mix (by kernel_rfl) fun K hK => ?_; simp (maxSteps := 3000000) (disch := omega) only [go_sem, ↓reduceIte, reduceCtorEq, pappend, plen, h4, pB, pC, h2, mB, k17]
    refine VCj.now (ps1) rfl ?_; simp (maxSteps := 3000000) (disch := omega) only [go_sem, ↓reduceIte, reduceCtorEq, pappend, plen]; refine hK _ _ ?_; clear hK K
    (repeat refine PW.seq ?_); refine PW.drawt [] [] mix (by kernel_rfl) fun K hK => ?_; simp (maxSteps := 3000000) (disch := omega) only [go_sem, ↓reduceIte, reduceCtorEq, pappend, plen, h4, pB, pC, h2, mB, k17, st]; refine hK _ _ ?_; clear hK K
    rw [es]
    exact Exists.intro _ (And.intro rfl Fin.now)

theorem codP (H : Heap) (i j : Nat) (M : List Bool) (x0 x1 x3 : Blk) (c : Cx) (m : Mb) (s : St) (hi : i < H.length) (hj : j < H.length) (hne : i ≠ j) (hl : M.length ≤ 800000000) :
    CallOk Try.prog 106 [.ptr (H.length + 4) 0 0] (pH H i j M x0 x1 x3 c m s) (.tup []) (pH H i j (M ++ b4M m) x0 x1 x3 c m s) := by
  have h4 := fun M => pH_4 H i j M x0 x1 x3 c m s
  have h2 := fun M => pH_2 H i j M x0 x1 x3 c m s
  have ho := hl_ok m (H.length + 2) _ (h2 M)
  have fl := fun M b hl => flagP H i j M x0 x1 x3 c m s b hi hj hne hl
  have k0 : (mbc m)[0]? = some (.int .i64 m.k) := rfl
  have k18 : List.take 6 (List.drop 18 (mbc m)) = fs (cdl m) := rfl
  have hcl : (fs (cdl m)).length = 6 := rfl
  have hcl' : (cdl m).length = 6 := rfl
  have hca : (mbc m).length = 24 + (is m.lv).length := by simp [mbc]; omega
  have hfg := fun n (hn : n < 6) => fs_get (cdl m) n hn
  have e4 : b4M m = if decide (m.k = 2) && hlM m then cdl m else [] := rfl
  generalize hlM m = hv at *
  refine CallOk.body (F0 := [(0, .ptr (H.length + 4) 0 0)]) Try.func106 rfl Try.ntmps106 Try.results106 rfl (by kernel_rfl) rfl ?_
  by_cases hk : m.k = 2
  rotate_left
  · have q2 : (m.k != 2) = true := by simp [hk]
    rw [decide_eq_false hk, Bool.false_and, if_neg (by decide)] at e4
    rw [e4, List.append_nil]
    (repeat' (first | refine PW.seq ?_ | refine PW.skip ?_ | refine PW.block ?_ | (refine PW.rg rfl fun K hK => ?_; simp (maxSteps := 3000000) (disch := omega) only [go_sem, ↓reduceIte, reduceCtorEq, pappend, plen, h4, h2, pB, pC, mB, k0, q2]) | (refine PW.draw mix (by kernel_rfl) fun K hK => ?_; simp (maxSteps := 3000000) (disch := omega) only [go_sem, ↓reduceIte, reduceCtorEq, pappend, plen, h4, h2, pB, pC, mB, k0, q2]) | (refine PW.drawg mix (by kernel_rfl) fun K hK => ?_; simp (maxSteps := 3000000) (disch := omega) only [go_sem, ↓reduceIte, reduceCtorEq, pappend, plen, h4, h2, pB, pC, mB, k0, q2]) | (refine PW.drawt [] [] mix (by kernel_rfl) fun K hK => ?_; simp (maxSteps := 3000000) (disch := omega) only [go_sem, ↓reduceIte, reduceCtorEq, pappend, plen, h4, h2, pB, pC, mB, k0, q2]) | ((first | refine VO_cond (fun h => ?_) (fun h => ?_) | refine VOd_cond (fun h => ?_) (fun h => ?_) | refine VOg_cond (fun h => ?_) (fun h => ?_) | refine VOh_cond (fun h => ?_) (fun h => ?_) | refine VOi_cond (fun h => ?_) (fun h => ?_) | refine And.intro (fun h => ?_) (fun h => ?_)) <;> (try simp only [Bool.not_eq_true', Bool.not_eq_false', decide_eq_true_eq, decide_eq_false_iff_not] at h) <;> simp (maxSteps := 3000000) (disch := omega) only [go_sem, ↓reduceIte, reduceCtorEq, pappend, plen, h4, h2, pB, pC, mB, k0, q2, h]) | (refine VCx.call (ho) rfl ?_; simp (maxSteps := 3000000) (disch := omega) only [go_sem, ↓reduceIte, reduceCtorEq, pappend, plen, h4, h2, pB, pC, mB, k0, q2]) | (refine VCy.call (ho) rfl ?_; simp (maxSteps := 3000000) (disch := omega) only [go_sem, ↓reduceIte, reduceCtorEq, pappend, plen, h4, h2, pB, pC, mB, k0, q2]) | (refine VCz.call (fun _ => ho) rfl ?_; simp (maxSteps := 3000000) (disch := omega) only [go_sem, ↓reduceIte, reduceCtorEq, pappend, plen, h4, h2, pB, pC, mB, k0, q2]) | (refine VCk.call (fun _ _ => ho) rfl ?_; simp (maxSteps := 3000000) (disch := omega) only [go_sem, ↓reduceIte, reduceCtorEq, pappend, plen, h4, h2, pB, pC, mB, k0, q2]) | (refine VCj.now (ho) rfl ?_; simp (maxSteps := 3000000) (disch := omega) only [go_sem, ↓reduceIte, reduceCtorEq, pappend, plen, h4, h2, pB, pC, mB, k0, q2]) | (refine hK _ _ ?_; clear hK K) | (refine PW.cond (t := _) rfl (fun h => ?_) (fun h => ?_) <;> (try (cases h; done)) <;> (try simp only [Bool.not_eq_true', Bool.not_eq_false', decide_eq_true_eq, decide_eq_false_iff_not] at h))))
    exact PW.ret (Exists.intro _ (And.intro rfl Fin.now))
  have q2 : (m.k != 2) = false := by simp [hk]
  rw [decide_eq_true hk, Bool.true_and] at e4
  cases hv with
  | false =>
    rw [if_neg (by decide)] at e4
    rw [e4, List.append_nil]
    (repeat' (first | refine PW.seq ?_ | refine PW.skip ?_ | refine PW.block ?_ | (refine PW.rg rfl fun K hK => ?_; simp (maxSteps := 3000000) (disch := omega) only [go_sem, ↓reduceIte, reduceCtorEq, pappend, plen, h4, h2, pB, pC, mB, k0, q2]) | (refine PW.draw mix (by kernel_rfl) fun K hK => ?_; simp (maxSteps := 3000000) (disch := omega) only [go_sem, ↓reduceIte, reduceCtorEq, pappend, plen, h4, h2, pB, pC, mB, k0, q2]) | (refine PW.drawg mix (by kernel_rfl) fun K hK => ?_; simp (maxSteps := 3000000) (disch := omega) only [go_sem, ↓reduceIte, reduceCtorEq, pappend, plen, h4, h2, pB, pC, mB, k0, q2]) | (refine PW.drawt [] [] mix (by kernel_rfl) fun K hK => ?_; simp (maxSteps := 3000000) (disch := omega) only [go_sem, ↓reduceIte, reduceCtorEq, pappend, plen, h4, h2, pB, pC, mB, k0, q2]) | ((first | refine VO_cond (fun h => ?_) (fun h => ?_) | refine VOd_cond (fun h => ?_) (fun h => ?_) | refine VOg_cond (fun h => ?_) (fun h => ?_) | refine VOh_cond (fun h => ?_) (fun h => ?_) | refine VOi_cond (fun h => ?_) (fun h => ?_) | refine And.intro (fun h => ?_) (fun h => ?_)) <;> (try simp only [Bool.not_eq_true', Bool.not_eq_false', decide_eq_true_eq, decide_eq_false_iff_not] at h) <;> simp (maxSteps := 3000000) (disch := omega) only [go_sem, ↓reduceIte, reduceCtorEq, pappend, plen, h4, h2, pB, pC, mB, k0, q2, h]) | (refine VCx.call (ho) rfl ?_; simp (maxSteps := 3000000) (disch := omega) only [go_sem, ↓reduceIte, reduceCtorEq, pappend, plen, h4, h2, pB, pC, mB, k0, q2]) | (refine VCy.call (ho) rfl ?_; simp (maxSteps := 3000000) (disch := omega) only [go_sem, ↓reduceIte, reduceCtorEq, pappend, plen, h4, h2, pB, pC, mB, k0, q2]) | (refine VCz.call (fun _ => ho) rfl ?_; simp (maxSteps := 3000000) (disch := omega) only [go_sem, ↓reduceIte, reduceCtorEq, pappend, plen, h4, h2, pB, pC, mB, k0, q2]) | (refine VCk.call (fun _ _ => ho) rfl ?_; simp (maxSteps := 3000000) (disch := omega) only [go_sem, ↓reduceIte, reduceCtorEq, pappend, plen, h4, h2, pB, pC, mB, k0, q2]) | (refine VCj.now (ho) rfl ?_; simp (maxSteps := 3000000) (disch := omega) only [go_sem, ↓reduceIte, reduceCtorEq, pappend, plen, h4, h2, pB, pC, mB, k0, q2]) | (refine hK _ _ ?_; clear hK K) | (refine PW.cond (t := _) rfl (fun h => ?_) (fun h => ?_) <;> (try (cases h; done)) <;> (try simp only [Bool.not_eq_true', Bool.not_eq_false', decide_eq_true_eq, decide_eq_false_iff_not] at h))))
    exact PW.ret (Exists.intro _ (And.intro rfl Fin.now))
  | true =>
    rw [if_pos rfl] at e4
    rw [e4]
    (repeat refine PW.seq ?_); refine PW.rg rfl fun K hK => ?_; simp (maxSteps := 3000000) (disch := omega) only [go_sem, ↓reduceIte, reduceCtorEq, pappend, plen, h4, h2, pB, pC, mB, k0, q2]; refine VCx.call (ho) rfl ?_; simp (maxSteps := 3000000) (disch := omega) only [go_sem, ↓reduceIte, reduceCtorEq, pappend, plen, h4, h2, pB, pC, mB, k0, q2]; refine hK _ _ ?_; clear hK K
    (repeat refine PW.seq ?_); refine PW.cond (t := _) rfl (fun h => ?_) (fun h => ?_)
    · cases h
    refine PW.skip ?_
    (repeat refine PW.seq ?_); refine PW.rg rfl fun K hK => ?_; simp (maxSteps := 3000000) (disch := omega) only [go_sem, ↓reduceIte, reduceCtorEq, pappend, plen, h4, h2, pB, pC, mB, k18, hca]; refine hK _ _ ?_; clear hK K
    (repeat refine PW.seq ?_); refine PW.block (PW.loop ?_)
    suffices hl1 : ∀ (n : Nat) (M1 : List Bool), n ≤ 6 → M1 = M ++ (cdl m).take n → PL Try.prog _ _ [(0, .ptr (H.length + 4) 0 0), (26, .agg (fs (cdl m))), (27, .int .i64 (n : Int))] (pH H i j M1 x0 x1 x3 c m s) _ by
      exact PL.at [0, 26, 27] (hl1 0 M (by omega) (by simp)) rfl rfl
    intro n M1 hn hM1
    have hMl : M1.length ≤ 800000006 := by rw [hM1]; simp; omega
    induction hd : 6 - n using Nat.strongRecOn generalizing n M1 with
    | _ d ih =>
      refine PL.round ?_; (repeat refine PW.seq ?_); refine PW.rg rfl fun K hK => ?_; simp (maxSteps := 3000000) (disch := omega) only [go_sem, ↓reduceIte, reduceCtorEq, pappend, plen]; refine hK _ _ ?_; clear hK K
      (repeat refine PW.seq ?_); refine PW.cond (t := _) rfl (fun h => ?_) (fun h => ?_)
      · have h6 : n < 6 := by have := of_decide_eq_true h; omega
        have hgn := hfg n h6
        have hsn : M ++ (cdl m).take (n + 1) = M1 ++ [flagAt (cdl m) n] := by
          rw [hM1, List.append_assoc]
          congr 1
          unfold flagAt
          rw [List.getD_eq_getElem?_getD, List.getElem?_eq_getElem (by omega), Option.getD_some, List.take_append_getElem]
        generalize flagAt (cdl m) n = b at *
        have fl1 := fl M1 b (by omega)
        refine PW.skip ?_; (repeat refine PW.seq ?_); refine PW.block ?_
        (repeat refine PW.seq ?_); refine PW.rg rfl fun K hK => ?_; simp (maxSteps := 3000000) (disch := omega) only [go_sem, ↓reduceIte, reduceCtorEq, pappend, plen, hgn, hcl]; refine hK _ _ ?_; clear hK K
        (repeat refine PW.seq ?_); refine PW.rg rfl fun K hK => ?_; simp (maxSteps := 3000000) (disch := omega) only [go_sem, ↓reduceIte, reduceCtorEq, pappend, plen]; refine VCx.call (fl1) rfl ?_; simp (maxSteps := 3000000) (disch := omega) only [go_sem, ↓reduceIte, reduceCtorEq, pappend, plen]; refine hK _ _ ?_; clear hK K
        (repeat refine PW.seq ?_); refine PW.rg rfl fun K hK => ?_; simp (maxSteps := 3000000) (disch := omega) only [go_sem, ↓reduceIte, reduceCtorEq, pappend, plen]; refine hK _ _ ?_; clear hK K
        exact PL.at [0, 26, 27] (ih (6 - (n + 1)) (by omega) (n + 1) (M1 ++ [b]) (by omega) hsn.symm (by rw [← hsn]; simp; omega) rfl) rfl rfl
      · have h6 : n = 6 := by have := of_decide_eq_false h; omega
        subst h6
        rw [List.take_of_length_le (by omega)] at hM1
        subst hM1
        refine PW.exit ?_
        exact Exists.intro _ (And.intro rfl Fin.now)

end Go.Proofs.Ytnjnikafhbholaa.Sc
