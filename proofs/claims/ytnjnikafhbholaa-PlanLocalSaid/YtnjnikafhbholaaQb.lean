/-
  Contracts of the tape that the laws draw their inputs from: Expr, the walk.
-/
import Derived.Test.YtnjnikafhbholaaQa
namespace Go.Proofs.Ytnjnikafhbholaa.Sc
set_option linter.all false
set_option linter.unusedVariables false
set_option linter.unusedSimpArgs false
open Pm Ty Go.RowKit

/-- The contract of Expr at a depth. -/
def ExprC (L : List Int) (f : Bool) (d : Nat) : Prop := ∀ (a i : Nat) (H : Heap), H[i]? = some (tb L f a) → a + 4 ^ (d + 1) ≤ 1000000 → CallOk Try.prog 85 [.ptr i 0 0, .int .i64 (d : Int)] H (.agg (exP L d a).1) (H.set i (tb L f (exP L d a).2))

theorem fzE (n : Nat) (H : Heap) : Fz n H (.agg exE) (.agg exE) := .id (ag_scoped (exOk.E.sc n))

set_option maxHeartbeats 1000000 in
theorem expr0 (L : List Int) (f : Bool) : ExprC L f 0 := by
  intro a i H hi ha
  obtain ⟨G, hG, hGa⟩ := tpH hi
  have hk := tn_range L a 8 (by omega)
  have hk1 := tn_range L (a + 1) 3 (by omega)
  have hK : (exK L 0 a).2 ≤ a + 2 := by unfold exK; split <;> simp
  have hK0 : 0 ≤ (exK L 0 a).1 ∧ (exK L 0 a).1 ≤ 3 := by
    unfold exK
    split
    · dsimp only; omega
    · rename_i h; dsimp only; omega
  generalize hexp : exP L 0 a = r
  unfold exP at hexp
  refine CallOk.body (F0 := [(0, .ptr i 0 0), (1, .int .i64 ((0 : Nat) : Int))]) Try.func85 rfl Try.ntmps85 Try.results85 rfl (by kernel_rfl) rfl ?_
  refine PW.eq rfl hGa.symm ?_
  (repeat refine PW.seq ?_); refine PW.rg rfl fun K hK => ?_; simp (maxSteps := 3000000) (disch := omega) only [go_sem, ↓reduceIte, reduceCtorEq, pappend, plen, hG.len]; refine hK _ _ ?_; clear hK K
  (repeat refine PW.seq ?_); refine PW.rg rfl fun K hK => ?_; simp (maxSteps := 3000000) (disch := omega) only [go_sem, ↓reduceIte, reduceCtorEq, pappend, plen, hG.set]; refine VCx.call (next_ok L f a 8 i _ (hG.get a _) (by omega) (by omega)) rfl ?_; simp (maxSteps := 3000000) (disch := omega) only [go_sem, ↓reduceIte, reduceCtorEq, pappend, plen, hG.set]; refine hK _ _ ?_; clear hK K
  (repeat refine PW.seq ?_); refine PW.rg rfl fun K hK => ?_; simp (maxSteps := 3000000) (disch := omega) only [go_sem, ↓reduceIte, reduceCtorEq, pappend, plen]; refine hK _ _ ?_; clear hK K
  refine PW.meet [0, 1, 4, 5] [(0, .ptr i 0 0), (1, .int .i64 ((0 : Nat) : Int)), (4, .ptr H.length 0 0), (5, .int .i64 (exK L 0 a).1)] (G (exK L 0 a).2 ++ [⟨81, 0, exE⟩]) ?_ ?_
  · (repeat refine PW.seq ?_); refine PW.cond (t := _) rfl (fun h => ?_) (fun h => ?_)
    · have h3 : tn L a 8 > 3 := by simpa using h
      have e : exK L 0 a = (1 + tn L (a + 1) 3, a + 2) := if_pos ⟨by omega, h3⟩
      rw [e]
      (repeat refine PW.seq ?_); refine PW.rg rfl fun K hK => ?_; simp (maxSteps := 3000000) (disch := omega) only [go_sem, ↓reduceIte, reduceCtorEq, pappend, plen, hG.set]; refine VCx.call (next_ok L f (a + 1) 3 i _ (hG.get _ _) (by omega) (by omega)) rfl ?_; simp (maxSteps := 3000000) (disch := omega) only [go_sem, ↓reduceIte, reduceCtorEq, pappend, plen, hG.set]; refine hK _ _ ?_; clear hK K
      exact ⟨rfl, rfl⟩
    · have h3 : ¬ tn L a 8 > 3 := by simpa using h
      have e : exK L 0 a = (tn L a 8, a + 1) := if_neg (fun hh => h3 hh.2)
      rw [e]
      exact PW.skip ⟨rfl, rfl⟩
  generalize exK L 0 a = p at *
  obtain ⟨k, a1⟩ := p
  dsimp only at *
  have hm1 := tn_range L a1 3 (by omega)
  have hm2 := tn_range L (a1 + 1) 8 (by omega)
  simp only [exE]
  (repeat refine PW.seq ?_); refine PW.rg rfl fun K hK => ?_; simp (maxSteps := 3000000) (disch := omega) only [go_sem, ↓reduceIte, reduceCtorEq, pappend, plen]; refine hK _ _ ?_; clear hK K
  (repeat refine PW.seq ?_); refine PW.block ?_
  (repeat refine PW.seq ?_); refine PW.rg rfl fun K hK => ?_; simp (maxSteps := 3000000) (disch := omega) only [go_sem, ↓reduceIte, reduceCtorEq, pappend, plen]; refine hK _ _ ?_; clear hK K
  (repeat refine PW.seq ?_); refine PW.cond (t := _) rfl (fun h => ?_) (fun h => ?_)
  · have h0 : k = 0 := by simpa using h
    rw [if_pos h0] at hexp
    subst hexp
    (repeat refine PW.seq ?_); refine PW.rg rfl fun K hK => ?_; simp (maxSteps := 3000000) (disch := omega) only [go_sem, ↓reduceIte, reduceCtorEq, pappend, plen, hG.p0, hG.s0]; refine hK _ _ ?_; clear hK K
    refine PW.ret ⟨.agg [.int .i64 0, .str [], .int .i64 0, .int .i64 0, .int .i64 0, .int .i64 0, .str [], .slice [] 0 true], by simp (maxSteps := 3000000) (disch := omega) only [go_sem, ↓reduceIte, reduceCtorEq, pappend, plen, presults, presult, List.mapM_cons, List.mapM_nil, Option.pure_def, Option.bind_eq_bind, Option.bind_some, Array.toList, hG.p0], ?_⟩
    exact hG.fin (fzE _ _)
  have h0 : k ≠ 0 := by simpa using h
  rw [if_neg h0] at hexp
  subst hexp
  (repeat refine PW.seq ?_); refine PW.rg rfl fun K hK => ?_; simp (maxSteps := 3000000) (disch := omega) only [go_sem, ↓reduceIte, reduceCtorEq, pappend, plen]; refine hK _ _ ?_; clear hK K
  (repeat refine PW.seq ?_); refine PW.cond (t := _) rfl (fun h => ?_) (fun h => ?_)
  · exfalso; have : k = 4 := by simpa using h
    omega
  (repeat refine PW.seq ?_); refine PW.rg rfl fun K hK => ?_; simp (maxSteps := 3000000) (disch := omega) only [go_sem, ↓reduceIte, reduceCtorEq, pappend, plen]; refine hK _ _ ?_; clear hK K
  (repeat refine PW.seq ?_); refine PW.cond (t := _) rfl (fun h => ?_) (fun h => ?_)
  · exfalso; have : k = 5 := by simpa using h
    omega
  (repeat refine PW.seq ?_); refine PW.rg rfl fun K hK => ?_; simp (maxSteps := 3000000) (disch := omega) only [go_sem, ↓reduceIte, reduceCtorEq, pappend, plen]; refine hK _ _ ?_; clear hK K
  (repeat refine PW.seq ?_); refine PW.cond (t := _) rfl (fun h => ?_) (fun h => ?_)
  · exfalso; have : k = 6 := by simpa using h
    omega
  (repeat refine PW.seq ?_); refine PW.rg rfl fun K hK => ?_; simp (maxSteps := 3000000) (disch := omega) only [go_sem, ↓reduceIte, reduceCtorEq, pappend, plen]; refine hK _ _ ?_; clear hK K
  (repeat refine PW.seq ?_); refine PW.cond (t := _) rfl (fun h => ?_) (fun h => ?_)
  · exfalso; have : k = 7 := by simpa using h
    omega
  refine PW.skip ?_
  (repeat refine PW.seq ?_); refine PW.rg rfl fun K hK => ?_; simp (maxSteps := 3000000) (disch := omega) only [go_sem, ↓reduceIte, reduceCtorEq, pappend, plen]
  refine VCx.call (next_ok L f a1 3 i _ (hG.get _ _) (by omega) (by omega)) rfl ?_; simp (maxSteps := 3000000) (disch := omega) only [go_sem, ↓reduceIte, reduceCtorEq, pappend, plen, hG.set]
  refine VCx.call (name_ok [109] _ _ (by simp) (by omega)) rfl ?_; simp (maxSteps := 3000000) (disch := omega) only [go_sem, ↓reduceIte, reduceCtorEq, pappend, plen]
  refine VCx.call (next_ok L f (a1 + 1) 8 i _ (hG.get _ _) (by omega) (by omega)) rfl ?_; simp (maxSteps := 3000000) (disch := omega) only [go_sem, ↓reduceIte, reduceCtorEq, pappend, plen, hG.set, hG.p0, hG.s0]
  refine hK _ _ ?_; clear hK K
  refine PW.ret ⟨.agg [.int .i64 1, .str (nm [109] (tn L a1 3)), .int .i64 (tn L (a1 + 1) 8), .int .i64 0, .int .i64 0, .int .i64 0, .str [], .slice [] 0 true], by simp (maxSteps := 3000000) (disch := omega) only [go_sem, ↓reduceIte, reduceCtorEq, pappend, plen, presults, presult, List.mapM_cons, List.mapM_nil, Option.pure_def, Option.bind_eq_bind, Option.bind_some, Array.toList, hG.p0], ?_⟩
  exact hG.fin (.id (ag_scoped ((exOk.S _ _ (by omega)).sc _)))

set_option maxHeartbeats 2000000 in
theorem exprS (L : List Int) (f : Bool) (d : Nat) (hd : d ≤ 3) (rec : ExprC L f d) : ExprC L f (d + 1) := by
  intro a i H hi ha
  obtain ⟨G, hG, hGa⟩ := tpH hi
  have hil : i < H.length := (List.getElem?_eq_some_iff.1 hi).1
  have hk := tn_range L a 8 (by omega)
  have hk1 := tn_range L (a + 1) 3 (by omega)
  have hk2 := tn_range L (a + 2) 3 (by omega)
  have hk3 := tn_range L (a + 2) 8 (by omega)
  have hk4 := tn_range L (a + 1) 2 (by omega)
  have hk5 := tn_range L (a + 3) 4 (by omega)
  have hk6 := tn_range L (a + 1) 256 (by omega)
  have e1 : ((d + 1 : Nat) : Int) - 1 = (d : Int) := by omega
  have hpos : 4 ^ 1 ≤ 4 ^ (d + 1) := Nat.pow_le_pow_right (by omega) (by omega)
  have hpw : 4 ^ (d + 1 + 1) = 4 * 4 ^ (d + 1) := by rw [Nat.pow_succ]; omega
  have hP := exP_ok L d
  unfold ExprC at rec
  have rc := fun (b : Nat) (K : Heap) (hb : b + 4 ^ (d + 1) ≤ 1000000) => rec b i (G b ++ K) (hG.get b K) hb
  generalize hexp : exP L (d + 1) a = r
  unfold exP at hexp
  simp only at hexp
  generalize exP L d = g at *
  refine CallOk.body (F0 := [(0, .ptr i 0 0), (1, .int .i64 ((d + 1 : Nat) : Int))]) Try.func85 rfl Try.ntmps85 Try.results85 rfl (by kernel_rfl) rfl ?_
  refine PW.eq rfl hGa.symm ?_
  (repeat refine PW.seq ?_); refine PW.rg rfl fun K hK => ?_; simp (maxSteps := 3000000) (disch := omega) only [go_sem, ↓reduceIte, reduceCtorEq, pappend, plen, hG.len]; refine hK _ _ ?_; clear hK K
  (repeat refine PW.seq ?_); refine PW.rg rfl fun K hK => ?_; simp (maxSteps := 3000000) (disch := omega) only [go_sem, ↓reduceIte, reduceCtorEq, pappend, plen, hG.set]; refine VCx.call (next_ok L f a 8 i _ (hG.get a _) (by omega) (by omega)) rfl ?_; simp (maxSteps := 3000000) (disch := omega) only [go_sem, ↓reduceIte, reduceCtorEq, pappend, plen, hG.set]; refine hK _ _ ?_; clear hK K
  (repeat refine PW.seq ?_); refine PW.rg rfl fun K hK => ?_; simp (maxSteps := 3000000) (disch := omega) only [go_sem, ↓reduceIte, reduceCtorEq, pappend, plen]; refine hK _ _ ?_; clear hK K
  (repeat refine PW.seq ?_); refine PW.cond (t := _) rfl (fun h => ?_) (fun h => ?_)
  · cases h
  refine PW.skip ?_
  (repeat refine PW.seq ?_); refine PW.rg rfl fun K hK => ?_; simp (maxSteps := 3000000) (disch := omega) only [go_sem, ↓reduceIte, reduceCtorEq, pappend, plen]; refine hK _ _ ?_; clear hK K
  (repeat refine PW.seq ?_); refine PW.block ?_
  (repeat refine PW.seq ?_); refine PW.rg rfl fun K hK => ?_; simp (maxSteps := 3000000) (disch := omega) only [go_sem, ↓reduceIte, reduceCtorEq, pappend, plen]; refine hK _ _ ?_; clear hK K
  (repeat refine PW.seq ?_); refine PW.cond (t := _) rfl (fun h => ?_) (fun h => ?_)
  · have h0 : tn L a 8 = 0 := by simpa using h
    rw [if_pos h0] at hexp
    subst hexp
    (repeat refine PW.seq ?_); refine PW.rg rfl fun K hK => ?_; simp (maxSteps := 3000000) (disch := omega) only [go_sem, ↓reduceIte, reduceCtorEq, pappend, plen, hG.p0, hG.s0]; refine hK _ _ ?_; clear hK K
    refine PW.ret ⟨.agg [.int .i64 0, .str [], .int .i64 0, .int .i64 0, .int .i64 0, .int .i64 0, .str [], .slice [] 0 true], by simp (maxSteps := 3000000) (disch := omega) only [go_sem, ↓reduceIte, reduceCtorEq, pappend, plen, presults, presult, List.mapM_cons, List.mapM_nil, Option.pure_def, Option.bind_eq_bind, Option.bind_some, Array.toList, hG.p0], ?_⟩
    exact hG.fin (fzE _ _)
  have h0 : tn L a 8 ≠ 0 := by simpa using h
  rw [if_neg h0] at hexp
  by_cases h45 : tn L a 8 = 4 ∨ tn L a 8 = 5
  · rw [if_pos h45] at hexp
    have hden : ([.int .i64 4, .int .i64 5, .int .i64 7] : List PV)[(tn L (a + 2) 3).toNat]? = some (.int .i64 (den3 (tn L (a + 2) 3))) := by
      have h3 : tn L (a + 2) 3 = 0 ∨ tn L (a + 2) 3 = 1 ∨ tn L (a + 2) 3 = 2 := by omega
      rcases h3 with h3 | h3 | h3 <;> (rw [h3]; rfl)
    (repeat refine PW.seq ?_); refine PW.rg rfl fun K hK => ?_; simp (maxSteps := 3000000) (disch := omega) only [go_sem, ↓reduceIte, reduceCtorEq, pappend, plen]; refine hK _ _ ?_; clear hK K
    refine PW.meet [0, 1, 4, 5, 23] [(0, .ptr i 0 0), (1, .int .i64 ((d + 1 : Nat) : Int)), (4, .ptr H.length 0 0), (5, .int .i64 (tn L a 8)), (23, .bool true)] (G (a + 1) ++ [⟨81, 0, [.int .i64 0, .str [], .int .i64 0, .int .i64 0, .int .i64 0, .int .i64 0, .str [], .slice [] 0 true]⟩]) ?_ ?_
    · (repeat refine PW.seq ?_); refine PW.cond (t := _) rfl (fun h => ?_) (fun h => ?_)
      · have h4 : tn L a 8 = 4 := by simpa using h
        refine PW.skip ⟨?_, rfl⟩
        simp (maxSteps := 3000000) (disch := omega) only [go_sem, ↓reduceIte, reduceCtorEq, pappend, plen]
      · have h4 : tn L a 8 ≠ 4 := by simpa using h
        have h5 : tn L a 8 = 5 := by omega
        (repeat refine PW.seq ?_); refine PW.rg rfl fun K hK => ?_; simp (maxSteps := 3000000) (disch := omega) only [go_sem, ↓reduceIte, reduceCtorEq, pappend, plen]; refine hK _ _ ?_; clear hK K
        refine ⟨?_, rfl⟩
        simp (maxSteps := 3000000) (disch := omega) only [go_sem, ↓reduceIte, reduceCtorEq, pappend, plen]
    (repeat refine PW.seq ?_); refine PW.cond (t := _) rfl (fun h => ?_) (fun h => ?_)
    rotate_left
    · cases h
    clear h
    (repeat refine PW.seq ?_); refine PW.rg rfl fun K hK => ?_; simp (maxSteps := 3000000) (disch := omega) only [go_sem, ↓reduceIte, reduceCtorEq, pappend, plen]
    refine VCx.call (next_ok L f (a + 1) 3 i _ (hG.get _ _) (by omega) (by omega)) rfl ?_; simp (maxSteps := 3000000) (disch := omega) only [go_sem, ↓reduceIte, reduceCtorEq, pappend, plen, hG.set]
    refine VCx.call (next_ok L f (a + 2) 3 i _ (hG.get _ _) (by omega) (by omega)) rfl ?_; simp (maxSteps := 3000000) (disch := omega) only [go_sem, ↓reduceIte, reduceCtorEq, pappend, plen, hG.set, hG.len, hG.p0, hG.p1, hG.s0, hG.s1, hden]
    refine hK _ _ ?_; clear hK K
    (repeat refine PW.seq ?_); refine PW.rg rfl fun K hK => ?_; simp (maxSteps := 3000000) (disch := omega) only [go_sem, ↓reduceIte, reduceCtorEq, pappend, plen]; refine hK _ _ ?_; clear hK K
    generalize hp : (if tn L a 8 = 5 then tn L (a + 3) 4 else 0) = p at hexp
    generalize hnum : (if 1 + tn L (a + 1) 3 = 2 then 3 else 1 + tn L (a + 1) 3) = num at hexp
    generalize hdd : den3 (tn L (a + 2) 3) = dd at *
    have ha3 : a3F L a ≤ a + 4 := by unfold a3F; split <;> omega
    refine PW.meet [0, 1, 4, 6] [(0, .ptr i 0 0), (1, .int .i64 ((d + 1 : Nat) : Int)), (4, .ptr H.length 0 0), (6, .ptr (H.length + 1) 0 0)] (G (a3F L a) ++ [⟨81, 0, [.int .i64 0, .str [], .int .i64 0, .int .i64 0, .int .i64 0, .int .i64 0, .str [], .slice [] 0 true]⟩, ⟨81, 0, [.int .i64 (tn L a 8 - 2), .str [], .int .i64 0, .int .i64 (1 + tn L (a + 1) 3), .int .i64 (dd), .int .i64 (p), .str [], .slice [] 0 true]⟩]) ?_ ?_
    · (repeat refine PW.seq ?_); refine PW.cond (t := _) rfl (fun h => ?_) (fun h => ?_)
      · have h5 : tn L a 8 = 5 := by simpa using h
        rw [if_pos h5] at hp
        subst hp
        rw [show a3F L a = a + 4 from if_pos h5, h5]
        (repeat refine PW.seq ?_); refine PW.rg rfl fun K hK => ?_; simp (maxSteps := 3000000) (disch := omega) only [go_sem, ↓reduceIte, reduceCtorEq, pappend, plen, hG.set, hG.p1, hG.s1]; refine VCx.call (next_ok L f (a + 3) 4 i _ (hG.get _ _) (by omega) (by omega)) rfl ?_; simp (maxSteps := 3000000) (disch := omega) only [go_sem, ↓reduceIte, reduceCtorEq, pappend, plen, hG.set, hG.p1, hG.s1]; refine hK _ _ ?_; clear hK K
        exact ⟨rfl, rfl⟩
      · have h5 : tn L a 8 ≠ 5 := by simpa using h
        have h4 : tn L a 8 = 4 := by omega
        rw [if_neg h5] at hp
        subst hp
        rw [show a3F L a = a + 3 from if_neg h5, h4]
        exact PW.skip ⟨rfl, rfl⟩
    (repeat refine PW.seq ?_); refine PW.rg rfl fun K hK => ?_; simp (maxSteps := 3000000) (disch := omega) only [go_sem, ↓reduceIte, reduceCtorEq, pappend, plen, hG.p1]; refine hK _ _ ?_; clear hK K
    refine PW.meet [0, 1, 4, 6] [(0, .ptr i 0 0), (1, .int .i64 ((d + 1 : Nat) : Int)), (4, .ptr H.length 0 0), (6, .ptr (H.length + 1) 0 0)] (G (a3F L a) ++ [⟨81, 0, [.int .i64 0, .str [], .int .i64 0, .int .i64 0, .int .i64 0, .int .i64 0, .str [], .slice [] 0 true]⟩, ⟨81, 0, [.int .i64 (tn L a 8 - 2), .str [], .int .i64 0, .int .i64 (num), .int .i64 (dd), .int .i64 (p), .str [], .slice [] 0 true]⟩]) ?_ ?_
    · (repeat refine PW.seq ?_); refine PW.cond (t := _) rfl (fun h => ?_) (fun h => ?_)
      · have h5 : 1 + tn L (a + 1) 3 = 2 := by simpa using h
        rw [if_pos h5] at hnum
        subst hnum
        (repeat refine PW.seq ?_); refine PW.rg rfl fun K hK => ?_; simp (maxSteps := 3000000) (disch := omega) only [go_sem, ↓reduceIte, reduceCtorEq, pappend, plen, hG.p1, hG.s1]; refine hK _ _ ?_; clear hK K
        exact ⟨rfl, rfl⟩
      · have h5 : 1 + tn L (a + 1) 3 ≠ 2 := by simpa using h
        rw [if_neg h5] at hnum
        subst hnum
        exact PW.skip ⟨rfl, rfl⟩
    have hb := hP (a3F L a)
    have hbc := (hb.1.sc H.length)
    have r1 := fun K => rc (a3F L a) K (by omega)
    have hsec : secF L g (g (a3F L a)) = if tn L (g (a3F L a)).2 4 > 0 then g ((g (a3F L a)).2 + 1) else ((g (a3F L a)).1, (g (a3F L a)).2 + 1) := rfl
    have r2 := fun K hK => rec ((g (a3F L a)).2 + 1) i K hK (by omega)
    have hc := hP ((g (a3F L a)).2 + 1)
    have hk7 := tn_range L (g (a3F L a)).2 4 (by omega)
    clear hP rc rec
    generalize secF L g (g (a3F L a)) = sec at *
    generalize g ((g (a3F L a)).2 + 1) = gc at *
    generalize g (a3F L a) = gb at *
    obtain ⟨b, a2⟩ := gb
    obtain ⟨c, a4⟩ := gc
    obtain ⟨c', a4'⟩ := sec
    dsimp only at *
    have hcc := (hc.1.sc H.length)
    obtain ⟨o1, m1, f1, y3, y4, y5, y6, y7, y8, y9, rfl, _⟩ := hb.1
    obtain ⟨o2, m2, f2, z3, z4, z5, z6, z7, z8, z9, rfl, _⟩ := hc.1
    (repeat refine PW.seq ?_); refine PW.rg rfl fun K hK => ?_; simp (maxSteps := 3000000) (disch := omega) only [go_sem, ↓reduceIte, reduceCtorEq, pappend, plen, e1, hG.set, hG.len, hG.p0, hG.p1, hG.p2, hG.s2]; refine VCx.call (r1 _) rfl ?_; simp (maxSteps := 3000000) (disch := omega) only [go_sem, ↓reduceIte, reduceCtorEq, pappend, plen, e1, hG.set, hG.len, hG.p0, hG.p1, hG.p2, hG.s2]; refine hK _ _ ?_; clear hK K
    (repeat refine PW.seq ?_)
    refine PW.view (Vs.place 81) ?_
    (repeat refine PW.seq ?_); refine PW.seqi [H.length + 3] [(51, 0)] rfl fun K hK => ?_
    simp (maxSteps := 3000000) (disch := omega) only [go_sem, ↓reduceIte, reduceCtorEq, pappend, plen, hG.len, hG.p1, hG.p2, hG.p3, hG.s1, hG.s3]
    refine hK _ _ ?_; clear hK K
    (repeat refine PW.seq ?_); refine PW.rg rfl fun K hK => ?_; simp (maxSteps := 3000000) (disch := omega) only [go_sem, ↓reduceIte, reduceCtorEq, pappend, plen, hG.set]; refine VCx.call (next_ok L f a2 4 i _ (hG.get _ _) (by omega) (by omega)) rfl ?_; simp (maxSteps := 3000000) (disch := omega) only [go_sem, ↓reduceIte, reduceCtorEq, pappend, plen, hG.set]; refine hK _ _ ?_; clear hK K
    subst hexp
    refine PW.meet [4, 6] [(4, .ptr H.length 0 0), (6, .ptr (H.length + 1) 0 0)] (G a4' ++ [⟨81, 0, [.int .i64 0, .str [], .int .i64 0, .int .i64 0, .int .i64 0, .int .i64 0, .str [], .slice [] 0 true]⟩, ⟨81, 0, [.int .i64 (tn L a 8 - 2), .str [], .int .i64 0, .int .i64 (num), .int .i64 (dd), .int .i64 (p), .str [], .msl (H.length + 3) 1 0 2 8 true]⟩, ⟨81, 0, [.int .i64 o1, .str m1, .int .i64 f1, .int .i64 y3, .int .i64 y4, .int .i64 y5, .str y6, .slice y7 y8 y9]⟩, ⟨81, 1, [.int .i64 o1, .str m1, .int .i64 f1, .int .i64 y3, .int .i64 y4, .int .i64 y5, .str y6, .slice y7 y8 y9] ++ c'⟩]) ?_ ?_
    · (repeat refine PW.seq ?_); refine PW.cond (t := _) rfl (fun h => ?_) (fun h => ?_)
      · have h5 : tn L a2 4 > 0 := by simpa using h
        rw [if_pos h5] at hsec
        cases hsec
        (repeat refine PW.seq ?_); refine PW.drawi [i, H.length + 3] [(58, [0]), (57, [1]), (62, [1])] [] [] mix (by kernel_rfl) (by simp <;> omega) fun K hK => ?_
        simp (maxSteps := 3000000) (disch := omega) only [go_sem, ↓reduceIte, reduceCtorEq, pappend, plen, hG.len, hG.p1, hG.p3, hG.get, hG.set, e1]
        refine VCj.wr1 (hG.get _ _) (fun _ hL _ => r2 _ hL) (by simp (maxSteps := 3000000) (disch := omega) only [go_sem, ↓reduceIte, reduceCtorEq, pappend, plen]) (.inl rfl) rfl ?_
        simp (maxSteps := 3000000) (disch := omega) only [go_sem, ↓reduceIte, reduceCtorEq, pappend, plen, hG.len, hG.get, hG.set, hG.p3, hG.s3]
        refine hK _ _ ?_; clear hK K
        exact ⟨rfl, rfl⟩
      · have h5 : ¬ tn L a2 4 > 0 := by simpa using h
        rw [if_neg h5] at hsec
        cases hsec
        exact PW.skip ⟨rfl, rfl⟩
    have hc8 : c'.length = 8 ∧ ∀ x ∈ c', Scoped H.length x := by
      split at hsec <;> cases hsec
      · exact ⟨rfl, hcc⟩
      · exact ⟨rfl, hbc⟩
    (repeat refine PW.seq ?_); refine PW.rg rfl fun K hK => ?_; simp (maxSteps := 3000000) (disch := omega) only [go_sem, ↓reduceIte, reduceCtorEq, pappend, plen, hG.p0, hG.p1, hG.s0]; refine hK _ _ ?_; clear hK K
    refine PW.ret ⟨.agg [.int .i64 (tn L a 8 - 2), .str [], .int .i64 0, .int .i64 (num), .int .i64 (dd), .int .i64 (p), .str [], .msl (H.length + 3) 1 0 2 8 true], by simp (maxSteps := 3000000) (disch := omega) only [go_sem, ↓reduceIte, reduceCtorEq, pappend, plen, presults, presult, List.mapM_cons, List.mapM_nil, Option.pure_def, Option.bind_eq_bind, Option.bind_some, Array.toList, hG.p0], ?_⟩
    refine hG.fin (Fz.aggC ⟨.id (.int _ _), .id (.str _), .id (.int _ _), .id (.int _ _), .id (.int _ _), .id (.int _ _), .id (.str _), Fz.mslC (e := 81) (xs := [.int .i64 o1, .str m1, .int .i64 f1, .int .i64 y3, .int .i64 y4, .int .i64 y5, .str y6, .slice y7 y8 y9] ++ c') (by omega) (hG.p3 _ _ _ _ _ _) (by simp [hc8.1]) (FzC.refl fun x hx => ?_), trivial⟩)
    rcases List.mem_append.1 hx with h | h
    · exact hbc x h
    · exact hc8.2 x h
  rw [if_neg h45] at hexp
  (repeat refine PW.seq ?_); refine PW.rg rfl fun K hK => ?_; simp (maxSteps := 3000000) (disch := omega) only [go_sem, ↓reduceIte, reduceCtorEq, pappend, plen]; refine hK _ _ ?_; clear hK K
  (repeat refine PW.seq ?_); refine PW.cond (t := _) rfl (fun h => ?_) (fun h => ?_)
  · exfalso; have : tn L a 8 = 4 := by simpa using h
    omega
  (repeat refine PW.seq ?_); refine PW.rg rfl fun K hK => ?_; simp (maxSteps := 3000000) (disch := omega) only [go_sem, ↓reduceIte, reduceCtorEq, pappend, plen]; refine hK _ _ ?_; clear hK K
  (repeat refine PW.seq ?_); refine PW.cond (t := _) rfl (fun h => ?_) (fun h => ?_)
  · exfalso; have : tn L a 8 = 5 := by simpa using h
    omega
  (repeat refine PW.seq ?_); refine PW.rg rfl fun K hK => ?_; simp (maxSteps := 3000000) (disch := omega) only [go_sem, ↓reduceIte, reduceCtorEq, pappend, plen]; refine hK _ _ ?_; clear hK K
  (repeat refine PW.seq ?_); refine PW.cond (t := _) rfl (fun h => ?_) (fun h => ?_)
  · have h6 : tn L a 8 = 6 := by simpa using h
    rw [if_pos h6] at hexp
    subst hexp
    have hb := hP (a + 2)
    have hc := hP (g (a + 2)).2
    have r1 := fun K => rc (a + 2) K (by omega)
    have r2 := fun K => rc (g (a + 2)).2 K (by omega)
    clear hP rc rec
    generalize g (g (a + 2)).2 = gc at *
    generalize g (a + 2) = gb at *
    obtain ⟨b, a2⟩ := gb
    obtain ⟨c, a4⟩ := gc
    dsimp only at *
    have hbc := (hb.1.sc H.length)
    have hcc := (hc.1.sc H.length)
    obtain ⟨o1, m1, f1, y3, y4, y5, y6, y7, y8, y9, rfl, _⟩ := hb.1
    obtain ⟨o2, m2, f2, z3, z4, z5, z6, z7, z8, z9, rfl, _⟩ := hc.1
    (repeat refine PW.seq ?_); refine PW.rg rfl fun K hK => ?_; simp (maxSteps := 3000000) (disch := omega) only [go_sem, ↓reduceIte, reduceCtorEq, pappend, plen]
    refine VCx.call (next_ok L f (a + 1) 256 i _ (hG.get _ _) (by omega) (by omega)) rfl ?_; simp (maxSteps := 3000000) (disch := omega) only [go_sem, ↓reduceIte, reduceCtorEq, pappend, plen, hG.set, e1]
    refine VCx.call (r1 _) rfl ?_; simp (maxSteps := 3000000) (disch := omega) only [go_sem, ↓reduceIte, reduceCtorEq, pappend, plen, hG.set, e1]
    refine VCx.call (r2 _) rfl ?_; simp (maxSteps := 3000000) (disch := omega) only [go_sem, ↓reduceIte, reduceCtorEq, pappend, plen, hG.set, hG.p0, hG.s0]
    refine hK _ _ ?_; clear hK K
    refine PW.ret ⟨.agg [.int .i64 4, .str [], .int .i64 0, .int .i64 0, .int .i64 0, .int .i64 (tn L (a + 1) 256), .str [], .slice ([.int .i64 o1, .str m1, .int .i64 f1, .int .i64 y3, .int .i64 y4, .int .i64 y5, .str y6, .slice y7 y8 y9, .int .i64 o2, .str m2, .int .i64 f2, .int .i64 z3, .int .i64 z4, .int .i64 z5, .str z6, .slice z7 z8 z9]) 2 true], by simp (maxSteps := 3000000) (disch := omega) only [go_sem, ↓reduceIte, reduceCtorEq, pappend, plen, presults, presult, List.mapM_cons, List.mapM_nil, Option.pure_def, Option.bind_eq_bind, Option.bind_some, Array.toList, hG.p0], ?_⟩
    refine hG.fin (.id' rfl (ag_scoped fun x hx => ?_))
    simp only [List.mem_cons, List.not_mem_nil, or_false] at hx
    rcases hx with rfl | rfl | rfl | rfl | rfl | rfl | rfl | rfl
    · exact .int _ _
    · exact .str _
    · exact .int _ _
    · exact .int _ _
    · exact .int _ _
    · exact .int _ _
    · exact .str _
    · exact sl_scoped fun x hx => by
        rcases List.mem_append.1 (show x ∈ [PV.int .i64 o1, .str m1, .int .i64 f1, .int .i64 y3, .int .i64 y4, .int .i64 y5, .str y6, .slice y7 y8 y9] ++ [.int .i64 o2, .str m2, .int .i64 f2, .int .i64 z3, .int .i64 z4, .int .i64 z5, .str z6, .slice z7 z8 z9] from hx) with h | h
        · exact hbc x h
        · exact hcc x h
  have h6 : tn L a 8 ≠ 6 := by simpa using h
  rw [if_neg h6] at hexp
  (repeat refine PW.seq ?_); refine PW.rg rfl fun K hK => ?_; simp (maxSteps := 3000000) (disch := omega) only [go_sem, ↓reduceIte, reduceCtorEq, pappend, plen]; refine hK _ _ ?_; clear hK K
  (repeat refine PW.seq ?_); refine PW.cond (t := _) rfl (fun h => ?_) (fun h => ?_)
  · have h7 : tn L a 8 = 7 := by simpa using h
    rw [if_pos h7] at hexp
    subst hexp
    have hb := hP (a + 2)
    have r1 := fun K hK => rec (a + 2) i K hK (by omega)
    clear hP rc rec
    generalize g (a + 2) = gb at *
    obtain ⟨b, a2⟩ := gb
    dsimp only at *
    have hbc := (hb.1.sc H.length)
    obtain ⟨o1, m1, f1, y3, y4, y5, y6, y7, y8, y9, rfl, _⟩ := hb.1
    have htx : ([.str [65], .str [69, 78, 68, 32, 50]] : List PV)[(tn L (a + 1) 2).toNat]? = some (.str (txt2 (tn L (a + 1) 2))) := by
      have h3 : tn L (a + 1) 2 = 0 ∨ tn L (a + 1) 2 = 1 := by omega
      rcases h3 with h3 | h3 <;> (rw [h3]; rfl)
    (repeat refine PW.seq ?_); refine PW.drawi [i, H.length] [(81, [0]), (85, [0]), (4, [1])] [] [] mix (by kernel_rfl) (by simp <;> omega) fun K hK => ?_
    simp (maxSteps := 3000000) (disch := omega) only [go_sem, ↓reduceIte, reduceCtorEq, pappend, plen, hG.len, hG.get, hG.set, hG.p0]
    refine VCj.wr1 (hG.get _ _) (fun _ hL _ => next_ok L f (a + 1) 2 i _ hL (by omega) (by omega)) (by simp (maxSteps := 3000000) (disch := omega) only [go_sem, ↓reduceIte, reduceCtorEq, pappend, plen]) (.inl rfl) rfl ?_
    simp (maxSteps := 3000000) (disch := omega) only [go_sem, ↓reduceIte, reduceCtorEq, pappend, plen, hG.len, hG.get, hG.set, hG.p0, htx, e1]
    refine VCj.wr1 (hG.get _ _) (fun _ hL _ => r1 _ hL) (by simp (maxSteps := 3000000) (disch := omega) only [go_sem, ↓reduceIte, reduceCtorEq, pappend, plen]) (.inl rfl) rfl ?_
    simp (maxSteps := 3000000) (disch := omega) only [go_sem, ↓reduceIte, reduceCtorEq, pappend, plen, hG.len, hG.get, hG.set, hG.p0, hG.s0]
    refine hK _ _ ?_; clear hK K
    refine PW.ret ⟨.agg [.int .i64 5, .str [], .int .i64 0, .int .i64 0, .int .i64 0, .int .i64 0, .str (txt2 (tn L (a + 1) 2)), .slice ([.int .i64 o1, .str m1, .int .i64 f1, .int .i64 y3, .int .i64 y4, .int .i64 y5, .str y6, .slice y7 y8 y9]) 1 true], by simp (maxSteps := 3000000) (disch := omega) only [go_sem, ↓reduceIte, reduceCtorEq, pappend, plen, presults, presult, List.mapM_cons, List.mapM_nil, Option.pure_def, Option.bind_eq_bind, Option.bind_some, Array.toList, hG.p0], ?_⟩
    refine hG.fin (.id' rfl (ag_scoped fun x hx => ?_))
    simp only [List.mem_cons, List.not_mem_nil, or_false] at hx
    rcases hx with rfl | rfl | rfl | rfl | rfl | rfl | rfl | rfl
    · exact .int _ _
    · exact .str _
    · exact .int _ _
    · exact .int _ _
    · exact .int _ _
    · exact .int _ _
    · exact .str _
    · exact sl_scoped hbc
  have h7 : tn L a 8 ≠ 7 := by simpa using h
  rw [if_neg h7] at hexp
  subst hexp
  refine PW.skip ?_
  (repeat refine PW.seq ?_); refine PW.rg rfl fun K hK => ?_; simp (maxSteps := 3000000) (disch := omega) only [go_sem, ↓reduceIte, reduceCtorEq, pappend, plen]
  refine VCx.call (next_ok L f (a + 1) 3 i _ (hG.get _ _) (by omega) (by omega)) rfl ?_; simp (maxSteps := 3000000) (disch := omega) only [go_sem, ↓reduceIte, reduceCtorEq, pappend, plen, hG.set]
  refine VCx.call (name_ok [109] _ _ (by simp) (by omega)) rfl ?_; simp (maxSteps := 3000000) (disch := omega) only [go_sem, ↓reduceIte, reduceCtorEq, pappend, plen]
  refine VCx.call (next_ok L f (a + 2) 8 i _ (hG.get _ _) (by omega) (by omega)) rfl ?_; simp (maxSteps := 3000000) (disch := omega) only [go_sem, ↓reduceIte, reduceCtorEq, pappend, plen, hG.set, hG.p0, hG.s0]
  refine hK _ _ ?_; clear hK K
  refine PW.ret ⟨.agg [.int .i64 1, .str (nm [109] (tn L (a + 1) 3)), .int .i64 (tn L (a + 2) 8), .int .i64 0, .int .i64 0, .int .i64 0, .str [], .slice [] 0 true], by simp (maxSteps := 3000000) (disch := omega) only [go_sem, ↓reduceIte, reduceCtorEq, pappend, plen, presults, presult, List.mapM_cons, List.mapM_nil, Option.pure_def, Option.bind_eq_bind, Option.bind_some, Array.toList, hG.p0], ?_⟩
  exact hG.fin (.id (ag_scoped ((exOk.S _ _ (by omega)).sc _)))

theorem expr2 (L : List Int) (f : Bool) : ExprC L f 2 := exprS L f 1 (by omega) (exprS L f 0 (by omega) (expr0 L f))

end Go.Proofs.Ytnjnikafhbholaa.Sc
