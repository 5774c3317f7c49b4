/-
  Contracts of chapter 31: where a run ends.
-/
import Derived.Test.YtnjnikafhbholaaQi
namespace Go.Proofs.Ytnjnikafhbholaa.Sc
set_option linter.all false
set_option linter.unusedVariables false
set_option linter.unusedSimpArgs false
open Pm Ty Go.RowKit
open Pl (Pa Sh arr sh kd adj adjS st en shm shn)

def NB (l : List (Option Sh)) : Prop := ∀ i x, sh l i = some x → 0 ≤ x.n ∧ x.n ≤ 1000000
theorem adj_iff (l : List (Option Sh)) (i : Nat) : adj l i = ((sh l i).isSome && ((sh l (i + 1)).isSome && ((shm (sh l (i + 1)) == shm (sh l i)) && (shn (sh l (i + 1)) == shn (sh l i) + 1)))) := by
  unfold adj
  cases sh l i with
  | none => rfl
  | some x => cases sh l (i + 1) <;> rfl

set_option maxHeartbeats 2000000 in
theorem runEnd_ok (l : List (Option Sh)) (g : Bool) (a : Nat) (x : Sh) (H : Heap) (hx : sh l a = some x) (hN : NB l) (hl : l.length ≤ 1000000) : CallOk Try.prog 89 [.slice (l.flatMap soc) l.length g, .int .i64 (a : Int)] H (.int .i64 (en l a : Int)) H := by
  have hal := Pl.sh_some hx
  have hll := sol_len l
  have hlat := sol_at l
  simp only [soc_eq] at hlat
  have hg0 := fun k hk => get_of_take (j := 0) (hlat k hk) (by omega)
  have hg1 := fun k hk => get_of_take (j := 1) (hlat k hk) (by omega)
  have hg2 := fun k hk => get_of_take (j := 2) (hlat k hk) (by omega)
  simp only [List.getElem?_cons_zero, List.getElem?_cons_succ, Nat.add_zero] at hg0 hg1 hg2
  refine CallOk.body (F0 := [(0, .slice (l.flatMap soc) l.length g), (1, .int .i64 (a : Int))]) Try.func89 rfl Try.ntmps89 Try.results89 rfl (by kernel_rfl) rfl ?_
  (repeat refine PW.seq ?_); refine PW.rg rfl fun K hK => ?_; simp (maxSteps := 3000000) (disch := omega) only [go_sem, ↓reduceIte, reduceCtorEq, pappend, plen]; refine hK _ _ ?_; clear hK K
  (repeat refine PW.seq ?_); refine PW.rg rfl fun K hK => ?_; simp (maxSteps := 3000000) (disch := omega) only [go_sem, ↓reduceIte, reduceCtorEq, pappend, plen]; refine hK _ _ ?_; clear hK K
  (repeat refine PW.seq ?_); refine PW.block (PW.loop ?_)
  suffices hl1 : ∀ e : Nat, a < e → e ≤ l.length → (∀ j, a ≤ j → j + 1 < e → adj l j = true) → PL Try.prog _ _ [(0, .slice (l.flatMap soc) l.length g), (1, .int .i64 (a : Int)), (5, .int .i64 (e : Int))] H _ by
    exact PL.at [0, 1, 5] (hl1 (a + 1) (by omega) (by omega) (fun j h1 h2 => by omega)) rfl rfl
  intro e he1 he2 hadj
  induction hd : l.length - e using Nat.strongRecOn generalizing e with
  | _ d ih =>
    obtain ⟨k, hk⟩ := Pl.run_val hx (e - 1 - a) (fun j h1 h2 => hadj j h1 (by omega))
    rw [show a + (e - 1 - a) = e - 1 by omega] at hk
    have hb := hN _ _ hk
    have hb0 := hN _ _ hx
    have hga := hg1 a hal
    rw [hx] at hga
    change _ = some (PV.str x.m) at hga
    have hgp := hg2 (e - 1) (by omega)
    rw [hk] at hgp
    change _ = some (PV.int .i64 (x.n + ((e - 1 - a : Nat) : Int))) at hgp
    have hai : adj l (e - 1) = ((sh l e).isSome && ((shm (sh l e) == x.m) && (shn (sh l e) == x.n + ((e - 1 - a : Nat) : Int) + 1))) := by
      rw [adj_iff, hk, show e - 1 + 1 = e by omega]
      rfl
    have e3 : ((e : Int) - 1) = ((e - 1 : Nat) : Int) := by omega
    have exitC : adj l (e - 1) = false → en l a = e := fun ha => Pl.en_uniq he1 hadj ha
    refine PL.round ?_
    by_cases hel : e < l.length
    · have h0 := hg0 e hel
      have h1 := hg1 e hel
      have h2 := hg2 e hel
      (repeat refine PW.seq ?_); refine PW.draw mix (by kernel_rfl) fun K hK => ?_; simp (maxSteps := 3000000) (disch := omega) only [go_sem, ↓reduceIte, reduceCtorEq, pappend, plen, h0, h1, h2, hll, hga, hgp, e3, Nat.add_zero]
      (repeat' ((first | refine VO_cond (fun h => ?_) (fun h => ?_) | refine VOd_cond (fun h => ?_) (fun h => ?_) | refine VOg_cond (fun h => ?_) (fun h => ?_) | refine VOh_cond (fun h => ?_) (fun h => ?_) | refine VOi_cond (fun h => ?_) (fun h => ?_) | refine And.intro (fun h => ?_) (fun h => ?_)) <;> (try simp only [Bool.not_eq_true', Bool.not_eq_false', decide_eq_true_eq, decide_eq_false_iff_not] at h) <;> simp (maxSteps := 3000000) (disch := omega) only [go_sem, ↓reduceIte, reduceCtorEq, pappend, plen, h0, h1, h2, hll, hga, hgp, e3, Nat.add_zero, h]))
      all_goals refine hK _ _ ?_; clear hK K
      all_goals
        (repeat refine PW.seq ?_); refine PW.cond (t := _) rfl (fun h => ?_) (fun h => ?_)
      all_goals first
        | (cases h; done)
        | (have ha : adj l (e - 1) = true := by
             rw [hai]
             clear hga hgp hai e3 exitC h0 h1 h2 hlat hg0 hg1 hg2 ih hadj hN
             simp_all
           refine PW.skip ?_
           (repeat refine PW.seq ?_); refine PW.block ?_
           (repeat refine PW.seq ?_); refine PW.rg rfl fun K hK => ?_; simp (maxSteps := 3000000) (disch := omega) only [go_sem, ↓reduceIte, reduceCtorEq, pappend, plen]; refine hK _ _ ?_; clear hK K
           exact PL.at [0, 1, 5] (ih (l.length - (e + 1)) (by omega) (e + 1) (by omega) (by omega) (fun j j1 j2 => by
             by_cases hj : j = e - 1
             · rw [hj]; exact ha
             · exact hadj j j1 (by omega)) rfl) rfl rfl)
        | (have ha : adj l (e - 1) = false := by
             rw [hai]
             clear hga hgp hai e3 exitC h0 h1 h2 hlat hg0 hg1 hg2 ih hadj hN
             simp_all
           refine PW.exit ?_
           (repeat refine PW.seq ?_); refine PW.rg rfl fun K hK => ?_; simp (maxSteps := 3000000) (disch := omega) only [go_sem, ↓reduceIte, reduceCtorEq, pappend, plen]; refine hK _ _ ?_; clear hK K
           (refine PW.ret ⟨_, rfl, ?_⟩; first | refine .inl ⟨?_, rfl⟩ | refine Fin.base (.id' ?_ (.bool _)) | refine Fin.base (.id' ?_ (.int _ _)))
           rw [exitC ha]
           rfl)
    · have : e = l.length := by omega
      subst this
      (repeat refine PW.seq ?_); refine PW.draw mix (by kernel_rfl) fun K hK => ?_; simp (maxSteps := 3000000) (disch := omega) only [go_sem, ↓reduceIte, reduceCtorEq, pappend, plen]
      refine hK _ _ ?_; clear hK K
      (repeat refine PW.seq ?_); refine PW.cond (t := _) rfl (fun h => ?_) (fun h => ?_)
      · cases h
      · have ha : adj l (l.length - 1) = false := by
          cases hh : adj l (l.length - 1) with
          | false => rfl
          | true => have := Pl.adj_lt hh; omega
        refine PW.exit ?_
        (repeat refine PW.seq ?_); refine PW.rg rfl fun K hK => ?_; simp (maxSteps := 3000000) (disch := omega) only [go_sem, ↓reduceIte, reduceCtorEq, pappend, plen]; refine hK _ _ ?_; clear hK K
        (refine PW.ret ⟨_, rfl, ?_⟩; first | refine .inl ⟨?_, rfl⟩ | refine Fin.base (.id' ?_ (.bool _)) | refine Fin.base (.id' ?_ (.int _ _)))
        rw [exitC ha]
        rfl

end Go.Proofs.Ytnjnikafhbholaa.Sc
