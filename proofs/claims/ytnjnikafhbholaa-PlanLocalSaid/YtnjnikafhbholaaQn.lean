/-
  The law PlanLocal.
-/
import Derived.Test.YtnjnikafhbholaaQm
namespace Go.Proofs.Ytnjnikafhbholaa.Sc
set_option linter.all false
set_option linter.unusedVariables false
set_option linter.unusedSimpArgs false
open Pm Ty Go.RowKit
open Pl (Pa Sh PF PaOk arr sh kd adj st en pts cpd jn ext shm shn tys)

theorem eqPa (p : Pa) : peqG Try.prog .neq 77 (.agg (pac p)) (.agg (pac p)) = some (.bool false) := by
  have e : peqG Try.prog .neq 77 (.agg (pac p)) (.agg (pac p)) = some (.bool (!((p.cp == p.cp) && ((p.film == p.film) && ((p.len == p.len) && ((p.m == p.m) && ((p.fr == p.fr) && true))))))) := by
    obtain ⟨a, b, c, d, e⟩ := p
    kernel_rfl
  rw [e]
  simp
theorem sameP_ok (P : List Pa) (g g' : Bool) (H : Heap) (hl : P.length ≤ 1000000) : CallOk Try.prog 44 [.slice (P.flatMap pac) P.length g, .slice (P.flatMap pac) P.length g'] H (.bool true) H := by
  have hp5 := pal_len P
  have hat := pal_at P
  refine CallOk.body (F0 := [(0, .slice (P.flatMap pac) P.length g), (1, .slice (P.flatMap pac) P.length g')]) Try.func44 rfl Try.ntmps44 Try.results44 rfl (by kernel_rfl) rfl ?_
  (repeat refine PW.seq ?_); refine PW.rg rfl fun K hK => ?_; simp (maxSteps := 3000000) (disch := omega) only [go_sem, ↓reduceIte, reduceCtorEq, pappend, plen]; refine hK _ _ ?_; clear hK K
  (repeat refine PW.seq ?_); refine PW.rg rfl fun K hK => ?_; simp (maxSteps := 3000000) (disch := omega) only [go_sem, ↓reduceIte, reduceCtorEq, pappend, plen]; refine hK _ _ ?_; clear hK K
  (repeat refine PW.seq ?_); refine PW.cond (t := _) rfl (fun h => ?_) (fun h => ?_)
  · exfalso; simp at h
  refine PW.skip ?_
  (repeat refine PW.seq ?_); refine PW.rg rfl fun K hK => ?_; simp (maxSteps := 3000000) (disch := omega) only [go_sem, ↓reduceIte, reduceCtorEq, pappend, plen]; refine hK _ _ ?_; clear hK K
  (repeat refine PW.seq ?_); refine PW.block (PW.loop ?_)
  suffices hl1 : ∀ (j : Nat), j ≤ P.length → PL Try.prog _ _ [(0, .slice (P.flatMap pac) P.length g), (1, .slice (P.flatMap pac) P.length g'), (12, .int .i64 (P.length : Int)), (13, .int .i64 (j : Int))] H _ by
    exact PL.at [0, 1, 12, 13] (hl1 0 (by omega)) rfl rfl
  intro j hj
  induction hd : P.length - j using Nat.strongRecOn generalizing j with
  | _ d ih =>
    refine PL.round ?_; (repeat refine PW.seq ?_); refine PW.rg rfl fun K hK => ?_; simp (maxSteps := 3000000) (disch := omega) only [go_sem, ↓reduceIte, reduceCtorEq, pappend, plen]; refine hK _ _ ?_; clear hK K
    (repeat refine PW.seq ?_); refine PW.cond (t := _) rfl (fun h => ?_) (fun h => ?_)
    rotate_left
    · refine PW.exit ?_
      (repeat refine PW.seq ?_); refine PW.rg rfl fun K hK => ?_; simp (maxSteps := 3000000) (disch := omega) only [go_sem, ↓reduceIte, reduceCtorEq, pappend, plen]; refine hK _ _ ?_; clear hK K
      (refine PW.ret ⟨_, rfl, ?_⟩; first | refine .inl ⟨?_, rfl⟩ | refine Fin.base (.id' ?_ (.bool _)) | refine Fin.base (.id' ?_ (.int _ _)))
      rfl
    · have h4 : j < P.length := by have := of_decide_eq_true h; omega
      have hat' := hat j h4
      have he := eqPa (paAt P j)
      generalize paAt P j = p at *
      refine PW.skip ?_; (repeat refine PW.seq ?_); refine PW.block ?_
      (repeat refine PW.seq ?_); refine PW.rg rfl fun K hK => ?_; simp (maxSteps := 3000000) (disch := omega) only [go_sem, ↓reduceIte, reduceCtorEq, pappend, plen]; refine hK _ _ ?_; clear hK K
      (repeat refine PW.seq ?_); refine PW.draw mix (by kernel_rfl) fun K hK => ?_; simp (maxSteps := 3000000) (disch := omega) only [go_sem, ↓reduceIte, reduceCtorEq, pappend, plen, hat', hp5, ↓he]; refine hK _ _ ?_; clear hK K
      (repeat refine PW.seq ?_); refine PW.cond (t := _) rfl (fun h => ?_) (fun h => ?_)
      · cases h
      refine PW.skip ?_
      (repeat refine PW.seq ?_); refine PW.rg rfl fun K hK => ?_; simp (maxSteps := 3000000) (disch := omega) only [go_sem, ↓reduceIte, reduceCtorEq, pappend, plen]; refine hK _ _ ?_; clear hK K
      exact PL.at [0, 1, 12, 13] (ih (P.length - (j + 1)) (by omega) (j + 1) (by omega) rfl) rfl rfl

/-! ### what the films of the laws are like -/
theorem tyl_rng (L : List Int) (a : Nat) : ∀ k, ∀ t ∈ tyl L a k, 1 ≤ t ∧ t ≤ 3
  | 0, t, h => by simp [tyl] at h; omega
  | k + 1, t, h => by
    simp only [tyl, List.mem_append, List.mem_singleton] at h
    rcases h with h | rfl
    · exact tyl_rng L a k t h
    · exact tbl_range _
theorem tyR_rng (L : List Int) (a k : Nat) : ∀ t ∈ tyR L a k, 1 ≤ t ∧ t ≤ 3 := fun t h => by
  unfold tyR at h
  split at h
  · rcases List.mem_or_eq_of_mem_set h with h | rfl
    · exact tyl_rng L a k t h
    · have := tn_range L (a + k) 2 (by omega); omega
  · exact tyl_rng L a k t h
theorem enL_rng (L : List Int) (a : Nat) (ts : List Int) (ht : ∀ t ∈ ts, 1 ≤ t ∧ t ≤ 3) : ∀ j, j ≤ ts.length → ∀ e ∈ enL L a ts j, 1 ≤ e.ty ∧ e.ty ≤ 3
  | 0, _, e, h => by simp [enL] at h
  | j + 1, hj, e, h => by
    simp only [enL, List.mem_append, List.mem_singleton] at h
    rcases h with h | rfl
    · exact enL_rng L a ts ht j (by omega) e h
    · simp only [en1]
      exact ht _ (by unfold intAt; exact getD_mem 0 ts j (by omega))
theorem ixs_ty (L : List Int) (s : Sq) (a : Nat) : ∀ m, ∀ x ∈ (ixs L s a m).1, ∀ e ∈ x.en, 1 ≤ e.ty ∧ e.ty ≤ 3
  | 0, x, hx, _, _ => by simp [ixs] at hx
  | m + 1, x, hx, e, he => by
    simp only [ixs, List.mem_append, List.mem_singleton] at hx
    rcases hx with hx | rfl
    · exact ixs_ty L s a m x hx e he
    · simp only [ix1] at he
      exact enL_rng L _ _ (tyR_rng L _ _) _ (by rw [tyR_len]; exact Nat.le_refl _) e he
structure FlM (f : Fl) : Prop extends FlOk f where
  ok : SqOk f.s
  vs : vseq f.s = true
  n : f.ex.length ≤ 50
  ty : ∀ x ∈ f.me, ∀ e ∈ x.en, 1 ≤ e.ty ∧ e.ty ≤ 3
theorem hdV (b : Bool) : vseq (hdS b 32) = true := by cases b <;> kernel_rfl
theorem flm_more (L : List Int) : FlM (flm L) := by
  have h := segs_ok L ((flX L).2 + 1) (flK L)
  have hk : flK L ≤ 5 := by have := tn_range L (flX L).2 6 (by omega); unfold flK; omega
  refine ⟨flm_ok L, ⟨by simp [flm, flS, hdS], by simp [flm, flS, hdS], by simp [flm, flS, hdS], by simp [flm, flS, hdS], by simp [flm, flS, hdS], by simp [flm, flS, hdS], by simp [flm, flS, hdS], by simp [flm, flS, hdS]⟩, hdV _, by have := h.2.2; simp only [flm]; omega, ixs_ty L (flS L) 2 3⟩

theorem outL_eq {l l' : List (Option Sh)} {a a' b b' c c' : Nat} (h1 : b - a = b' - a') (hc : b ≤ c) (hc' : b' ≤ c') (h : ∀ k, k < b - a → fr1 l (a + k) = fr1 l' (a' + k)) : outL l a b c = outL l' a' b' c' := by
  unfold outL
  rw [← h1]
  apply List.map_congr_left
  intro k hk
  rw [List.mem_range] at hk
  rw [if_pos (by omega), if_pos (by omega), h k hk]
theorem fr1_eq {l l' : List (Option Sh)} {i j : Nat} (h1 : sh l' j = sh l i) (h : cpd l' j = cpd l i ∧ jn l' j = jn l i) : fr1 l' j = fr1 l i := by
  unfold fr1; rw [h1, h.1, h.2]
theorem sh_out (l : List (Option Sh)) (i : Nat) (h : l.length ≤ i) : sh l i = none := by
  unfold sh; rw [List.getElem?_eq_none h]; rfl
theorem local_1 (l l' : List (Option Sh)) (k : Nat) (h : k < l.length) : fr1 (l ++ none :: l') k = fr1 l k := by
  have hs : ∀ i, i < l.length → sh (l ++ none :: l') (i + 0) = sh l i := fun i hi => by
    unfold sh; rw [Nat.add_zero, List.getElem?_append_left hi]
  have h1 : sh (l ++ none :: l') (l.length + 0) = none := by unfold sh; simp
  have := Pl.cpd_sub hs rfl (.inl rfl) h1 h
  exact fr1_eq (hs k h) this
theorem local_2 (l l' : List (Option Sh)) (k : Nat) (h : k < l'.length) : fr1 (l ++ none :: l') (l.length + 1 + k) = fr1 l' k := by
  have hs : ∀ i, i < l'.length → sh (l ++ none :: l') (i + (l.length + 1)) = sh l' i := fun i hi => by
    unfold sh
    rw [List.getElem?_append_right (by omega), show i + (l.length + 1) - l.length = i + 1 by omega, List.getElem?_cons_succ]
  have h1 : sh (l ++ none :: l') (l'.length + (l.length + 1)) = none := sh_out _ _ (by simp; omega)
  have h0 : sh (l ++ none :: l') (l.length + 1 - 1) = none := by unfold sh; simp
  have := Pl.cpd_sub hs rfl (.inr h0) h1 h
  rw [show l.length + 1 + k = k + (l.length + 1) by omega]
  exact fr1_eq (hs k h) this
theorem exc_c (e : Ex) : (exc e).all PV.cell = true := rfl
theorem exl_c (E : List Ex) : (E.flatMap exc).all PV.cell = true := by
  rw [List.all_flatMap, List.all_eq_true]
  intro e _
  exact exc_c e

end Go.Proofs.Ytnjnikafhbholaa.Sc
