/-
  Contracts of chapter 31: Find, Same of sources; what a film's parts say.
-/
import Derived.Test.YtnjnikafhbholaaQn
namespace Go.Proofs.Ytnjnikafhbholaa.Sc
set_option linter.all false
set_option linter.unusedVariables false
set_option linter.unusedSimpArgs false
open Pm Ty Go.RowKit
open Pl (Pa Sh PF PaOk arr sh kd adj st en pts cpd jn ext shm shn tys)

def fdI : Option Nat → Int
  | some k => (k : Int)
  | none => -1
theorem fnd_mono {M : List Ix} {s : List UInt8} {n k : Nat} (h : fnd M s n = some k) : ∀ d, fnd M s (n + d) = some k
  | 0 => h
  | d + 1 => by
    rw [show n + (d + 1) = n + d + 1 by omega, fnd, fnd_mono h d]
theorem find_ok (M : List Ix) (g : Bool) (s : List UInt8) (H : Heap) (hM : ∀ x ∈ M, SqL x.sq) (hl : M.length ≤ 1000000) : CallOk Try.prog 48 [.slice (M.flatMap ixc) M.length g, .str s] H (.int .i64 (fdI (fnd M s M.length))) H := by
  have hlM := ixl_len M hM
  have hat := fun k => fm_at' ixc 137 ix0 M k (fun x hx => ixc_len x (hM x hx))
  change ∀ k, k < M.length → List.take 137 (List.drop (k * 137) (M.flatMap ixc)) = ixc (ixAt M k) at hat
  refine CallOk.body (F0 := [(0, .slice (M.flatMap ixc) M.length g), (1, .str s)]) Try.func48 rfl Try.ntmps48 Try.results48 rfl (by kernel_rfl) rfl ?_
  (repeat refine PW.seq ?_); refine PW.rg rfl fun K hK => ?_; simp (maxSteps := 3000000) (disch := omega) only [go_sem, ↓reduceIte, reduceCtorEq, pappend, plen]; refine hK _ _ ?_; clear hK K
  (repeat refine PW.seq ?_); refine PW.rg rfl fun K hK => ?_; simp (maxSteps := 3000000) (disch := omega) only [go_sem, ↓reduceIte, reduceCtorEq, pappend, plen]; refine hK _ _ ?_; clear hK K
  (repeat refine PW.seq ?_); refine PW.block (PW.loop ?_)
  suffices hl1 : ∀ (j : Nat), j ≤ M.length → fnd M s j = none → PL Try.prog _ _ [(0, .slice (M.flatMap ixc) M.length g), (1, .str s), (5, .int .i64 (j : Int))] H _ by
    exact PL.at [0, 1, 5] (hl1 0 (by omega) rfl) rfl rfl
  intro j hj hn
  induction hd : M.length - j using Nat.strongRecOn generalizing j with
  | _ d ih =>
    refine PL.round ?_; (repeat refine PW.seq ?_); refine PW.rg rfl fun K hK => ?_; simp (maxSteps := 3000000) (disch := omega) only [go_sem, ↓reduceIte, reduceCtorEq, pappend, plen]; refine hK _ _ ?_; clear hK K
    (repeat refine PW.seq ?_); refine PW.cond (t := _) rfl (fun h => ?_) (fun h => ?_)
    rotate_left
    · have h4 : j = M.length := by have := of_decide_eq_false h; omega
      subst h4
      refine PW.exit ?_
      (repeat refine PW.seq ?_); refine PW.rg rfl fun K hK => ?_; simp (maxSteps := 3000000) (disch := omega) only [go_sem, ↓reduceIte, reduceCtorEq, pappend, plen]; refine hK _ _ ?_; clear hK K
      (refine PW.ret ⟨_, rfl, ?_⟩; first | refine .inl ⟨?_, rfl⟩ | refine Fin.base (.id' ?_ (.bool _)) | refine Fin.base (.id' ?_ (.int _ _)))
      rw [hn]
      rfl
    · have h4 : j < M.length := by have := of_decide_eq_true h; omega
      have h0 := get_of_take (j := 0) (hat j h4) (by omega)
      change _ = some (PV.str (ixAt M j).nm) at h0
      rw [Nat.add_zero] at h0
      have hnx : fnd M s (j + 1) = if (ixAt M j).nm = s then some j else none := by rw [fnd, hn]
      generalize ixAt M j = x at *
      refine PW.skip ?_; (repeat refine PW.seq ?_); refine PW.block ?_
      (repeat refine PW.seq ?_); refine PW.rg rfl fun K hK => ?_; simp (maxSteps := 3000000) (disch := omega) only [go_sem, ↓reduceIte, reduceCtorEq, pappend, plen, h0, hlM]; refine hK _ _ ?_; clear hK K
      (repeat refine PW.seq ?_); refine PW.cond (t := _) rfl (fun h => ?_) (fun h => ?_)
      · have he : x.nm = s := by simpa using h
        rw [if_pos he] at hnx
        have := fnd_mono hnx (M.length - (j + 1))
        rw [show j + 1 + (M.length - (j + 1)) = M.length by omega] at this
        (repeat refine PW.seq ?_); refine PW.rg rfl fun K hK => ?_; simp (maxSteps := 3000000) (disch := omega) only [go_sem, ↓reduceIte, reduceCtorEq, pappend, plen]; refine hK _ _ ?_; clear hK K
        (refine PW.ret ⟨_, rfl, ?_⟩; first | refine .inl ⟨?_, rfl⟩ | refine Fin.base (.id' ?_ (.bool _)) | refine Fin.base (.id' ?_ (.int _ _)))
        rw [this]
        rfl
      · have he : x.nm ≠ s := by simpa using h
        rw [if_neg he] at hnx
        refine PW.skip ?_
        (repeat refine PW.seq ?_); refine PW.rg rfl fun K hK => ?_; simp (maxSteps := 3000000) (disch := omega) only [go_sem, ↓reduceIte, reduceCtorEq, pappend, plen]; refine hK _ _ ?_; clear hK K
        exact PL.at [0, 1, 5] (ih (M.length - (j + 1)) (by omega) (j + 1) (by omega) hnx rfl) rfl rfl
theorem eqf0 (g g' : Bool) (F : PV) (H : Heap) : CallOk Try.prog 92 [.slice [] 0 g, .slice [] 0 g', F] H (.bool true) H := by
  refine CallOk.body (F0 := [(0, .slice [] 0 g), (1, .slice [] 0 g'), (2, F)]) Try.func92 rfl Try.ntmps92 Try.results92 rfl (by kernel_rfl) rfl ?_
  (repeat refine PW.seq ?_); refine PW.rg rfl fun K hK => ?_; simp (maxSteps := 3000000) (disch := omega) only [go_sem, ↓reduceIte, reduceCtorEq, pappend, plen]; refine hK _ _ ?_; clear hK K
  (repeat refine PW.seq ?_); refine PW.rg rfl fun K hK => ?_; simp (maxSteps := 3000000) (disch := omega) only [go_sem, ↓reduceIte, reduceCtorEq, pappend, plen]; refine hK _ _ ?_; clear hK K
  (repeat refine PW.seq ?_); refine PW.cond (t := _) rfl (fun h => ?_) (fun h => ?_)
  · cases h
  refine PW.skip ?_
  (repeat refine PW.seq ?_); refine PW.rg rfl fun K hK => ?_; simp (maxSteps := 3000000) (disch := omega) only [go_sem, ↓reduceIte, reduceCtorEq, pappend, plen]; refine hK _ _ ?_; clear hK K
  (repeat refine PW.seq ?_); refine PW.block (PW.loop ?_)
  refine PL.round ?_; (repeat refine PW.seq ?_); refine PW.rg rfl fun K hK => ?_; simp (maxSteps := 3000000) (disch := omega) only [go_sem, ↓reduceIte, reduceCtorEq, pappend, plen]; refine hK _ _ ?_; clear hK K
  (repeat refine PW.seq ?_); refine PW.cond (t := _) rfl (fun h => ?_) (fun h => ?_)
  · cases h
  refine PW.exit ?_
  (repeat refine PW.seq ?_); refine PW.rg rfl fun K hK => ?_; simp (maxSteps := 3000000) (disch := omega) only [go_sem, ↓reduceIte, reduceCtorEq, pappend, plen]; refine hK _ _ ?_; clear hK K
  (refine PW.ret ⟨_, rfl, ?_⟩; first | refine .inl ⟨?_, rfl⟩ | refine Fin.base (.id' ?_ (.bool _)) | refine Fin.base (.id' ?_ (.int _ _)))
  rfl
theorem sameS (m : List UInt8) (fr : Int) (H : Heap) : CallOk Try.prog 49 [.agg [.int .i64 1, .str m, .int .i64 fr, .int .i64 0, .int .i64 0, .int .i64 0, .str [], .slice [] 0 true], .agg [.int .i64 1, .str m, .int .i64 fr, .int .i64 0, .int .i64 0, .int .i64 0, .str [], .slice [] 0 true]] H (.bool true) H := by
  refine CallOk.body (F0 := [(0, .agg [.int .i64 1, .str m, .int .i64 fr, .int .i64 0, .int .i64 0, .int .i64 0, .str [], .slice [] 0 true]), (1, .agg [.int .i64 1, .str m, .int .i64 fr, .int .i64 0, .int .i64 0, .int .i64 0, .str [], .slice [] 0 true])]) Try.func49 rfl Try.ntmps49 Try.results49 rfl (by kernel_rfl) rfl ?_
  (repeat refine PW.seq ?_); refine PW.rg rfl fun K hK => ?_; simp (maxSteps := 3000000) (disch := omega) only [go_sem, ↓reduceIte, reduceCtorEq, pappend, plen]; refine hK _ _ ?_; clear hK K
  (repeat refine PW.seq ?_); refine PW.rg rfl fun K hK => ?_; simp (maxSteps := 3000000) (disch := omega) only [go_sem, ↓reduceIte, reduceCtorEq, pappend, plen]
  refine VCx.call (eqf0 _ _ _ _) rfl ?_; simp (maxSteps := 3000000) (disch := omega) only [go_sem, ↓reduceIte, reduceCtorEq, pappend, plen]
  refine hK _ _ ?_; clear hK K
  (refine PW.ret ⟨_, rfl, ?_⟩; first | refine .inl ⟨?_, rfl⟩ | refine Fin.base (.id' ?_ (.bool _)) | refine Fin.base (.id' ?_ (.int _ _)))
  rfl

/-- The plan of a film is valid. -/
theorem vld_pts {l : List (Option Sh)} {n : Nat} (hN : NB l) (hm : ∀ i x, sh l i = some x → x.m ≠ []) : ∀ {ps : List Pa} {pc : Bool} {c : Nat}, PF l pc c ps n → vld (n : Int) (c : Int) ps = true
  | [], pc, c, h => by cases h; simp [vld]
  | p :: r, pc, c, h => by
    obtain ⟨c', hp, _, _, hr⟩ := PF.at h
    have ih := vld_pts hN hm hr
    obtain ⟨q1, q2, q3, q4, q5⟩ := hp
    have hle := hr.le
    have hvs : vs p = true := by
      unfold vs
      cases hc : p.cp with
      | false => simp [(q4 hc).1, (q4 hc).2.1]
      | true =>
        obtain ⟨_, _, k, hk⟩ := q5 hc c (by omega) (by omega)
        have b := hN _ _ hk
        have m := hm _ _ hk
        dsimp only at b m
        simp [m]
        omega
    have e : (c : Int) + p.len = (c' : Int) := by omega
    simp only [vld, paV, hvs, e, ih, Bool.and_true]
    simp only [Bool.and_eq_true, decide_eq_true_eq]
    refine ⟨q1, ?_, ?_⟩ <;> omega

end Go.Proofs.Ytnjnikafhbholaa.Sc
