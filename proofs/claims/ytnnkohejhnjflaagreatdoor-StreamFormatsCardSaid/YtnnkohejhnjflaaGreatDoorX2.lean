/-
  THE STATEMENT StreamFormatsCardSaid, PROVED (from the contract 'law_formats12'); the tie of the listed variables is the given one.
-/
import Derived.Test.YtnnkohejhnjflaaGreatDoorX1
import Derived.Test.YtnnkohejhnjflaaGreatDoorPmL
import Derived.Test.YtnnkohejhnjflaaGreatDoorRows
import Derived.LaidMore
import Derived.OpenShut
import Derived.MakeChecks
import Derived.LaidHandle
import Derived.FnData
import Derived.Test.YtnnkohejhnjflaaGreatDoorLp
import Derived.Test.YtnnkohejhnjflaaGreatDoorLg
import Derived.Test.YtnnkohejhnjflaaGreatDoorCards
import Derived.Test.YtnnkohejhnjflaaGreatDoorTie
import Derived.SevenTiedAt
namespace Go.Proofs.YtnnkohejhnjflaaGreatDoor.Sc
set_option linter.all false
set_option linter.unusedVariables false
set_option linter.unusedSimpArgs false
open Pm Ty S3 Go.RowKit

def Gu (u : Un) : Prop := (fmtR u.1 u.2).2 = 0 ∧ u.2.length ≤ 1000000
theorem unU_g : ∀ (U : List (List UInt8)) (l : List Un), (∀ u ∈ l, Gu u) → (∀ u ∈ (unU l U).1, Gu u) ∧ (unU l U).1.length ≤ l.length + U.length
  | [], l, h => ⟨h, by simp [unU]⟩
  | u :: r, l, h => by
    unfold unU
    split
    · exact ⟨fun u hu => (by cases hu), by simp⟩
    · rename_i h2
      have := unU_g r (l ++ [(178, u ++ [128])]) (fun w hw => by
        rcases List.mem_append.1 hw with hw | hw
        · exact h w hw
        · rw [List.mem_singleton] at hw
          subst hw
          exact ⟨fU_ok u, by simp; omega⟩)
      refine ⟨this.1, ?_⟩
      have h3 := this.2
      simp at h3 ⊢
      omega
theorem unS_g : ∀ (us l : List Un), (∀ u ∈ us, u.2.length ≤ 1000000) → (∀ u ∈ l, Gu u) → (∀ u ∈ (unS l us).1, Gu u) ∧ (unS l us).1.length ≤ l.length + us.length
  | [], l, _, h => ⟨h, by simp [unS]⟩
  | u :: r, l, hp, h => by
    unfold unS
    split
    · split
      · rename_i h2
        have := unS_g r (l ++ [u]) (fun w hw => hp w (List.mem_cons_of_mem _ hw)) (fun w hw => by
          rcases List.mem_append.1 hw with hw | hw
          · exact h w hw
          · rw [List.mem_singleton] at hw
            subst hw
            exact ⟨h2, hp w (List.mem_cons_self ..)⟩)
        refine ⟨this.1, ?_⟩
        have h3 := this.2
        simp at h3 ⊢
        omega
      · exact ⟨fun u hu => (by cases hu), by simp⟩
    · exact ⟨fun u hu => (by cases hu), by simp⟩
theorem unI_g {x : It} (hx : Lt x) : (∀ u ∈ (unI x).1, Gu u) ∧ (unI x).1.length ≤ 20001 := by
  unfold unI
  split
  · split
    · rename_i he
      have hh : ∀ u ∈ [((hdU x).1, (hdU x).2.1)], Gu u := fun u hu => by
        rw [List.mem_singleton] at hu
        subst hu
        have := hdU_fmt he
        exact ⟨this.1, by show (hdU x).2.1.length ≤ _; omega⟩
      have h1 := unU_g x.U _ hh
      have hU := hx.U
      have hus := hx.us
      split
      · split
        · have h2 := unS_g x.us _ hx.up h1.1
          refine ⟨h2.1, ?_⟩
          have h3 := h2.2
          have h4 := h1.2
          rw [List.length_singleton] at h4
          omega
        · exact ⟨fun u hu => (by cases hu), by simp⟩
      · exact ⟨hh, by simp⟩
    · exact ⟨fun u hu => (by cases hu), by simp⟩
  · exact ⟨fun u hu => (by cases hu), by simp⟩
def byL (l : List Un) : List UInt8 := l.flatMap fun u => (fmtR u.1 u.2).1
theorem byL_app (l m : List Un) : byL (l ++ m) = byL l ++ byL m := by simp [byL]
def byR (x : It) : List UInt8 × Int := if (unI x).2 = 0 then (byL (unI x).1, 0) else ([], (unI x).2)

set_option maxHeartbeats 8000000 in
set_option maxRecDepth 100000 in
theorem bytes_ref (x : It) (H : Heap) (hx : Lt x) : CallOk Tryz.prog 67 [.agg (itc x)] H (rvB (byR x)) H := by
  have hs := hx.ok.s
  have i1 := itc_cell x
  have i2 := itc_len x hs
  have i9 : List.take 148 (itc x) = itc x := List.take_of_length_le (by omega)
  have uo := fun K => units_ref x K hx
  obtain ⟨hg, hgl⟩ := unI_g hx
  unfold rvUn at uo
  generalize hr : byR x = r
  unfold byR at hr
  generalize (unI x).1 = l at *
  generalize (unI x).2 = e at *
  refine CallOk.body (F0 := [(0, .agg (itc x))]) Tryz.func67 rfl Tryz.ntmps67 Tryz.results67 rfl (by kernel_rfl) rfl ?_
  (repeat refine PW.seq ?_); refine PW.rg rfl fun K hK => ?_; simp (maxSteps := 3000000) (disch := omega) only [go_sem, ↓reduceIte, reduceCtorEq, pappend, plen, i1]; refine hK _ _ ?_; clear hK K
  (repeat refine PW.seq ?_); refine PW.rg rfl fun K hK => ?_; simp (maxSteps := 3000000) (disch := omega) only [go_sem, ↓reduceIte, reduceCtorEq, pappend, plen, i2, i9]; refine VCx.call (uo _) rfl ?_; simp (maxSteps := 3000000) (disch := omega) only [go_sem, ↓reduceIte, reduceCtorEq, pappend, plen]; refine hK _ _ ?_; clear hK K
  by_cases he : e = 0
  rotate_left
  · rw [if_neg he] at hr
    have be : (e != 0) = true := by simp [he]
    (repeat refine PW.seq ?_); refine PW.rg rfl fun K hK => ?_; simp (maxSteps := 3000000) (disch := omega) only [go_sem, ↓reduceIte, reduceCtorEq, pappend, plen, be]; refine hK _ _ ?_; clear hK K
    (repeat refine PW.seq ?_); refine PW.cond (t := _) rfl (fun h => ?_) (fun h => ?_)
    rotate_left
    · cases h
    (repeat refine PW.seq ?_); refine PW.rg rfl fun K hK => ?_; simp (maxSteps := 3000000) (disch := omega) only [go_sem, ↓reduceIte, reduceCtorEq, pappend, plen]; refine hK _ _ ?_; clear hK K
    refine PW.ret ⟨.tup [.slice [] 0 true, .int .i64 e], by simp (maxSteps := 3000000) (disch := omega) only [go_sem, ↓reduceIte, reduceCtorEq, pappend, plen, presults, presult, List.mapM_cons, List.mapM_nil, Option.pure_def, Option.bind_eq_bind, Option.bind_some, Array.toList], ?_⟩
    rw [← hr]
    exact Fin.base (Fz.tupC ⟨Fz.sliceC trivial (fun e => by cases e), .id (.int _ _), trivial⟩)
  rw [if_pos he] at hr
  have be : (e != 0) = false := by simp [he]
  (repeat refine PW.seq ?_); refine PW.rg rfl fun K hK => ?_; simp (maxSteps := 3000000) (disch := omega) only [go_sem, ↓reduceIte, reduceCtorEq, pappend, plen, be]; refine hK _ _ ?_; clear hK K
  (repeat refine PW.seq ?_); refine PW.cond (t := _) rfl (fun h => ?_) (fun h => ?_)
  · cases h
  refine PW.skip ?_
  (repeat refine PW.seq ?_); refine PW.rg rfl fun K hK => ?_; simp (maxSteps := 3000000) (disch := omega) only [go_sem, ↓reduceIte, reduceCtorEq, pappend, plen]; refine hK _ _ ?_; clear hK K
  refine PW.view (Vs.ghost 6 5 1 rfl) ?_
  (repeat refine PW.seq ?_); refine PW.rg rfl fun K hK => ?_; simp (maxSteps := 3000000) (disch := omega) only [go_sem, ↓reduceIte, reduceCtorEq, pappend, plen]; refine hK _ _ ?_; clear hK K
  have ql := uq_len l
  (repeat refine PW.seq ?_); refine PW.block (PW.loop ?_)
  suffices hloop : ∀ (k : Nat) (M : List UInt8), k ≤ l.length → M.length ≤ k * 2000004 → byL l = M ++ byL (l.drop k) → PL Tryz.prog _ _ [(4, .slice (uq l) l.length false), (6, .msl (H.length + 1) M.length 0 M.length 1 true), (7, .int .i64 (k : Int))] (H ++ [⟨64, 0, itc x⟩, ⟨5, M.length, bs M⟩]) _ by
    exact PL.at [4, 6, 7] (hloop 0 [] (by omega) (by simp) rfl) (by simp [kp, slot, Nat.beq]) (by simp [bs])
  intro k M hk hM hf
  have hMl : M.length ≤ 1000000000000 := by omega
  have bM := length_bs M
  induction hd : l.length - k using Nat.strongRecOn generalizing k M with
  | _ d ih =>
    refine PL.round ?_; (repeat refine PW.seq ?_); refine PW.rg rfl fun K hK => ?_; simp (maxSteps := 3000000) (disch := omega) only [go_sem, ↓reduceIte, reduceCtorEq, pappend, plen]; refine hK _ _ ?_; clear hK K
    (repeat refine PW.seq ?_); refine PW.cond (t := _) rfl (fun h => ?_) (fun h => ?_)
    · have hkl : k < l.length := by have := of_decide_eq_true h; omega
      have ua := uq_at l k hkl
      obtain ⟨g1, g2⟩ := hg l[k] (List.getElem_mem hkl)
      have hnext := fun M h1 h2 h3 h4 => ih (l.length - (k + 1)) (by omega) (k + 1) M (by omega) h1 h2 h3 h4 rfl
      rw [List.drop_eq_getElem_cons hkl] at hf
      have hf' : byL l = M ++ ((fmtR l[k].1 l[k].2).1 ++ byL (l.drop (k + 1))) := hf
      generalize l[k] = u at *
      unfold uq1 at ua
      have fm := fun K => format_ref u.1 u.2 false K g2
      have fb := fmt_bd u.1 u.2
      have fp := fmt_pos g1
      unfold bv at fm
      rw [g1] at fm
      generalize (fmtR u.1 u.2).1 = e1 at *
      have te : List.take e1.length (bs e1) = bs e1 := List.take_of_length_le (by rw [length_bs]; omega)
      have be1 := length_bs e1
      refine PW.skip ?_; (repeat refine PW.seq ?_); refine PW.block ?_
      (repeat refine PW.seq ?_); refine PW.rg rfl fun K hK => ?_; simp (maxSteps := 3000000) (disch := omega) only [go_sem, ↓reduceIte, reduceCtorEq, pappend, plen, ua, ql]; refine VCx.call (fm _) rfl ?_; simp (maxSteps := 3000000) (disch := omega) only [go_sem, ↓reduceIte, reduceCtorEq, pappend, plen]; refine hK _ _ ?_; clear hK K
      (repeat refine PW.seq ?_); refine PW.rg rfl fun K hK => ?_; simp (maxSteps := 3000000) (disch := omega) only [go_sem, ↓reduceIte, reduceCtorEq, pappend, plen, te, be1, bM, List.length_append]; refine hK _ _ ?_; clear hK K
      (repeat refine PW.seq ?_); refine PW.rg rfl fun K hK => ?_; simp (maxSteps := 3000000) (disch := omega) only [go_sem, ↓reduceIte, reduceCtorEq, pappend, plen]; refine hK _ _ ?_; clear hK K
      have hl4 : (M ++ e1).length = M.length + e1.length := by rw [List.length_append]
      refine PL.at [4, 6, 7] (hnext (M ++ e1) (by rw [hl4, Nat.add_mul]; omega) (by rw [List.append_assoc]; exact hf') (by rw [hl4]; omega) (length_bs _)) ?_ ?_
      · rw [hl4]; rfl
      · rw [hl4, bs_append]
    · have hkl : k = l.length := by have := of_decide_eq_false h; omega
      rw [hkl, List.drop_length] at hf
      have hf : byL l = M := by rw [hf]; simp [byL]
      refine PW.exit ?_
      (repeat refine PW.seq ?_); refine PW.rg rfl fun K hK => ?_; simp (maxSteps := 3000000) (disch := omega) only [go_sem, ↓reduceIte, reduceCtorEq, pappend, plen]; refine hK _ _ ?_; clear hK K
      refine PW.ret ⟨.tup [.msl (H.length + 1) M.length 0 M.length 1 true, .int .i64 0], by simp (maxSteps := 3000000) (disch := omega) only [go_sem, ↓reduceIte, reduceCtorEq, pappend, plen, presults, presult, List.mapM_cons, List.mapM_nil, Option.pure_def, Option.bind_eq_bind, Option.bind_some, Array.toList], ?_⟩
      rw [← hr, hf]
      refine Fin.base (Fz.tupC ⟨?_, .id (.int _ _), trivial⟩)
      exact Fz.mslC (e := 5) (xs := bs M) (by omega) (hp1 _ _ _ _) (by rw [bM, Nat.mul_one]) (FzC.refl (bs_scoped _ _))

/-! ### both sides are the same -/
theorem apU_un : ∀ (U : List (List UInt8)) (y : BV) (l : List Un), byL l = y.1 → (apU y U).2 = (unU l U).2 ∧ ((unU l U).2 = 0 → (apU y U).1.1 = byL (unU l U).1)
  | [], y, l, h => ⟨rfl, fun _ => h.symm⟩
  | u :: r, y, l, h => by
    unfold apU unU
    by_cases h2 : 256 < u.length
    · rw [if_pos h2, if_pos h2]
      exact ⟨rfl, fun h => by cases h⟩
    · rw [if_neg h2, if_neg h2]
      refine apU_un r (more y (fU u)) _ ?_
      rw [byL_app, h]
      simp [byL, more, fU]
theorem apS_un : ∀ (us : List Un) (y : BV) (l : List Un), byL l = y.1 → (apS y us).2 = (unS l us).2 ∧ ((unS l us).2 = 0 → (apS y us).1.1 = byL (unS l us).1)
  | [], y, l, h => ⟨rfl, fun _ => h.symm⟩
  | u :: r, y, l, h => by
    unfold apS unS
    by_cases h1 : 1 ≤ u.1 ∧ u.1 < 5
    · rw [if_pos h1, if_pos h1]
      by_cases h2 : (fmtR u.1 u.2).2 = 0
      · rw [if_pos h2, if_pos h2]
        refine apS_un r (more y (fmtR u.1 u.2).1) _ ?_
        rw [byL_app, h]
        simp [byL, more]
      · rw [if_neg h2, if_neg h2]
        exact ⟨rfl, fun h => absurd h h2⟩
    · rw [if_neg h1, if_neg h1]
      exact ⟨rfl, fun h => by cases h⟩
theorem byR_eq (x : It) : byR x = itB x := by
  unfold byR itB unI
  cases okI x with
  | false => rfl
  | true =>
    simp only [if_true]
    by_cases he : (hdU x).2.2 = 0
    rotate_left
    · rw [if_neg he, if_neg he, if_neg he]
    rw [if_pos he, if_pos he]
    by_cases hk : x.k = 3
    rotate_left
    · rw [if_neg hk, if_neg hk]
      simp [byL, hdB]
    rw [if_pos hk, if_pos hk]
    obtain ⟨h1, h2⟩ := apU_un x.U (hdV x) [((hdU x).1, (hdU x).2.1)] (by simp [byL, hdV, hdB])
    unfold apP
    rw [h1]
    by_cases h3 : (unU [((hdU x).1, (hdU x).2.1)] x.U).2 = 0
    · rw [if_pos h3, if_pos h3]
      obtain ⟨h4, h5⟩ := apS_un x.us (apU (hdV x) x.U).1 _ (h2 h3).symm
      rw [h4]
      by_cases h6 : (unS (unU [((hdU x).1, (hdU x).2.1)] x.U).1 x.us).2 = 0
      · rw [if_pos h6, if_pos h6, h5 h6]
      · rw [if_neg h6, if_neg h6]
    · rw [if_neg h3, if_neg h3]
      rw [if_neg h3, if_neg (by rw [h1]; exact h3), h1]

end Go.Proofs.YtnnkohejhnjflaaGreatDoor.Sc

namespace Go.Proofs.YtnnkohejhnjflaaGreatDoor.Sc
set_option linter.all false
set_option linter.unusedVariables false
set_option linter.unusedSimpArgs false
open Pm Ty S3 Go.RowKit

theorem apU_len : ∀ (U : List (List UInt8)) (y : BV), (apU y U).1.1.length ≤ y.1.length + U.length * 600
  | [], y => by simp [apU]
  | u :: r, y => by
    unfold apU
    split
    · simp
    · have h := apU_len r (more y (fU u))
      have hb := fU_bd u
      simp only [more, List.length_append, List.length_cons] at h ⊢
      omega
theorem apS_len : ∀ (us : List Un) (y : BV), (∀ u ∈ us, u.2.length ≤ 1000000) → (apS y us).1.1.length ≤ y.1.length + us.length * 2000004
  | [], y, _ => by simp [apS]
  | u :: r, y, hp => by
    unfold apS
    split
    · split
      · have h := apS_len r (more y (fmtR u.1 u.2).1) (fun w hw => hp w (List.mem_cons_of_mem _ hw))
        have hb := fmt_bd u.1 u.2
        have hu := hp u (List.mem_cons_self ..)
        simp only [more, List.length_append, List.length_cons] at h ⊢
        omega
      · simp
    · simp
theorem itB_len {x : It} (hx : Lt x) : (itB x).1.length ≤ 30000000000 := by
  have hU := hx.U
  have hus := hx.us
  unfold itB
  split
  · split
    · rename_i he
      have hb : (hdB x).length ≤ 1000 := by
        obtain ⟨hf, hl⟩ := hdU_fmt he
        have := fmt_bd (hdU x).1 (hdU x).2.1; unfold hdB; omega
      split
      · split
        · have h1 := apU_len x.U (hdV x)
          have h2 := apS_len x.us (apU (hdV x) x.U).1 hx.up
          have hv : (hdV x).1.length ≤ 1000 := hb
          unfold apP
          split
          · show (apS (apU (hdV x) x.U).1 x.us).1.1.length ≤ _
            omega
          · show (apU (hdV x) x.U).1.1.length ≤ _
            omega
        · simp
      · show (hdB x).length ≤ _
        omega
    · simp
  · simp
theorem itB_pad {x : It} (h : (itB x).2 = 0) : 0 ≤ x.pad ∧ x.pad ≤ 1048576 ∧ 4 ≤ (itB x).1.length := by
  unfold itB at h ⊢
  cases hok : okI x with
  | false => rw [hok, if_neg (by decide)] at h; cases h
  | true =>
    rw [hok, if_pos rfl] at h
    unfold okI at hok
    simp only [Bool.and_eq_true, decide_eq_true_eq] at hok
    refine ⟨hok.2.2.1, hok.2.2.2, ?_⟩
    rw [if_pos rfl]
    by_cases he : (hdU x).2.2 = 0
    rotate_left
    · rw [if_neg he] at h
      exact absurd h he
    rw [if_pos he] at h ⊢
    have hb : 4 ≤ (hdB x).length := fmt_pos (hdU_fmt he).1
    by_cases hk : x.k = 3
    rotate_left
    · rw [if_neg hk]; exact hb
    rw [if_pos hk] at h ⊢
    by_cases h0 : (apP (hdV x) x.U x.us).2 = 0
    rotate_left
    · rw [if_neg h0] at h
      exact absurd h h0
    rw [if_pos h0]
    have mU : ∀ (U : List (List UInt8)) (y : BV), y.1.length ≤ (apU y U).1.1.length := by
      intro U
      induction U with
      | nil => intro y; exact Nat.le_refl _
      | cons u r ih =>
        intro y
        unfold apU
        split
        · exact Nat.le_refl _
        · refine Nat.le_trans ?_ (ih _)
          simp [more]
    have mS : ∀ (us : List Un) (y : BV), y.1.length ≤ (apS y us).1.1.length := by
      intro us
      induction us with
      | nil => intro y; exact Nat.le_refl _
      | cons u r ih =>
        intro y
        unfold apS
        split
        · split
          · refine Nat.le_trans ?_ (ih _)
            simp [more]
          · exact Nat.le_refl _
        · exact Nat.le_refl _
    have h1 := mU x.U (hdV x)
    have h2 := mS x.us (apU (hdV x) x.U).1
    have hv : (hdV x).1.length = (hdB x).length := rfl
    unfold apP
    split
    · show 4 ≤ (apS (apU (hdV x) x.U).1 x.us).1.1.length
      omega
    · show 4 ≤ (apU (hdV x) x.U).1.1.length
      omega

/-! ### the whole stream -/
def pce (x : It) : List UInt8 := (itB x).1 ++ List.replicate x.pad.toNat 0
def byS (l : List It) : List UInt8 := l.flatMap pce
def erL : List It → Int
  | [] => 0
  | x :: r => if (itB x).2 = 0 then erL r else (itB x).2
def piL : List It → Nat
  | [] => 0
  | x :: r => (if x.k = 3 then 1 else 0) + piL r
def fmS (l : List It) : List UInt8 × Int := if erL l = 0 then (if 256 < piL l ∨ 1048576 < (byS l).length then ([], 5) else (byS l, 0)) else ([], erL l)
theorem byS_snoc (l : List It) (x : It) : byS (l ++ [x]) = byS l ++ pce x := by simp [byS]
theorem piL_snoc : ∀ (l : List It) (x : It), piL (l ++ [x]) = piL l + (if x.k = 3 then 1 else 0)
  | [], x => by simp [piL]
  | y :: r, x => by
    rw [List.cons_append, piL, piL, piL_snoc r x]
    omega
theorem byS_take {l : List It} {k : Nat} (h : k < l.length) : byS (l.take (k + 1)) = byS (l.take k) ++ pce l[k] := by
  rw [List.take_succ_eq_append_getElem h, byS_snoc]
theorem piL_take {l : List It} {k : Nat} (h : k < l.length) : piL (l.take (k + 1)) = piL (l.take k) + (if l[k].k = 3 then 1 else 0) := by
  rw [List.take_succ_eq_append_getElem h, piL_snoc]
theorem reps_bs (n : Nat) : reps n [.int .u8 0] = bs (List.replicate n 0) := by
  rw [bs_rep]
  induction n with
  | zero => rfl
  | succ n ih => rw [List.replicate_succ, ← ih]; simp [reps, List.replicate_succ]
def itL (l : List It) : List PV := l.flatMap itc
theorem itL_len (l : List It) (h : ∀ x ∈ l, SqOk x.s) : (itL l).length = l.length * 148 := flat_len itc 148 l fun x hx => itc_len x (h x hx)
theorem itL_at (l : List It) (h : ∀ x ∈ l, SqOk x.s) (k : Nat) (hk : k < l.length) : List.take 148 (List.drop (k * 148) (itL l)) = itc l[k] := flat_at itc 148 l k hk fun x hx => itc_len x (h x hx)
theorem itL_get (l : List It) (h : ∀ x ∈ l, SqOk x.s) (k r : Nat) (hk : k < l.length) (hr : r < 148) : (itL l)[k * 148 + r]? = (itc l[k])[r]? := flat_get itc 148 l k r hk (fun x hx => itc_len x (h x hx)) hr
theorem itL_sc (n : Nat) (l : List It) : ∀ x ∈ itL l, Scoped n x := fun x hx => by
  obtain ⟨u, _, hx⟩ := List.mem_flatMap.1 hx
  exact itc_sc _ _ x hx
structure Lts (l : List It) : Prop where
  n : l.length ≤ 1000000
  i : ∀ x ∈ l, Lt x
theorem Lts.s {l : List It} (h : Lts l) : ∀ x ∈ l, SqOk x.s := fun x hx => (h.i x hx).ok.s
theorem pce_len {x : It} (hx : Lt x) (h : (itB x).2 = 0) : (pce x).length = (itB x).1.length + x.pad.toNat ∧ (pce x).length ≤ 30001048576 := by
  have h1 := itB_len hx
  have h2 := itB_pad h
  unfold pce
  rw [List.length_append, List.length_replicate]
  omega

set_option maxHeartbeats 8000000 in
set_option maxRecDepth 100000 in
theorem fmts_ok (l : List It) (f : Bool) (H : Heap) (hl : Lts l) : CallOk Tryz.prog 25 [.slice (itL l) l.length f] H (rvB (fmS l)) H := by
  have hn := hl.n
  have ln := itL_len l hl.s
  have fe : ∀ (e : Int) (K : Heap), Fin H (rvB ([], e)) H (.tup [.slice [] 0 true, .int .i64 e]) (H ++ K) := fun e K =>
    Fin.base (Fz.tupC ⟨Fz.sliceC trivial (fun e => by cases e), .id (.int _ _), trivial⟩)
  generalize hr : fmS l = r
  unfold fmS at hr
  refine CallOk.body (F0 := [(0, .slice (itL l) l.length f)]) Tryz.func25 rfl Tryz.ntmps25 Tryz.results25 rfl (by kernel_rfl) rfl ?_
  (repeat refine PW.seq ?_); refine PW.rg rfl fun K hK => ?_; simp (maxSteps := 3000000) (disch := omega) only [go_sem, ↓reduceIte, reduceCtorEq, pappend, plen]; refine hK _ _ ?_; clear hK K
  (repeat refine PW.seq ?_); refine PW.rg rfl fun K hK => ?_; simp (maxSteps := 3000000) (disch := omega) only [go_sem, ↓reduceIte, reduceCtorEq, pappend, plen]; refine hK _ _ ?_; clear hK K
  refine PW.view (Vs.ghost 4 5 1 rfl) ?_
  (repeat refine PW.seq ?_); refine PW.rg rfl fun K hK => ?_; simp (maxSteps := 3000000) (disch := omega) only [go_sem, ↓reduceIte, reduceCtorEq, pappend, plen]; refine hK _ _ ?_; clear hK K
  (repeat refine PW.seq ?_); refine PW.rg rfl fun K hK => ?_; simp (maxSteps := 3000000) (disch := omega) only [go_sem, ↓reduceIte, reduceCtorEq, pappend, plen]; refine hK _ _ ?_; clear hK K
  (repeat refine PW.seq ?_); refine PW.block (PW.loop ?_)
  suffices hloop : ∀ (k : Nat) (O : List UInt8), k ≤ l.length → erL l = erL (l.drop k) → (byS (l.take k)).length ≤ k * 30001048576 → O.length ≤ 1048576 → ((byS (l.take k)).length ≤ 1048576 → O = byS (l.take k)) → piL (l.take k) ≤ k →
      PL Tryz.prog _ _ [(0, .slice (itL l) l.length f), (4, .msl H.length O.length 0 O.length 1 true), (5, .int .i64 (piL (l.take k) : Int)), (6, .int .i64 ((byS (l.take k)).length : Int)), (11, .int .i64 (l.length : Int)), (12, .int .i64 (k : Int))] (H ++ [⟨5, O.length, bs O⟩]) _ by
    exact PL.at [0, 4, 5, 6, 11, 12] (hloop 0 [] (by omega) rfl (by simp [byS]) (by simp) (fun _ => by simp [byS]) (by simp [piL])) rfl rfl
  intro k O hk he hS hO hOb hP
  induction hd : l.length - k using Nat.strongRecOn generalizing k O with
  | _ d ih =>
    have bO := length_bs O
    refine PL.round ?_; (repeat refine PW.seq ?_); refine PW.rg rfl fun K hK => ?_; simp (maxSteps := 3000000) (disch := omega) only [go_sem, ↓reduceIte, reduceCtorEq, pappend, plen]; refine hK _ _ ?_; clear hK K
    (repeat refine PW.seq ?_); refine PW.cond (t := _) rfl (fun h => ?_) (fun h => ?_)
    · have hkl : k < l.length := by have := of_decide_eq_true h; omega
      have ia := itL_at l hl.s k hkl
      have i0 := itL_get l hl.s k 0 hkl (by omega)
      have ip := itL_get l hl.s k 147 hkl (by omega)
      have hx := hl.i l[k] (List.getElem_mem hkl)
      rw [itc_0, Nat.add_zero] at i0
      rw [itc_pad _ hx.ok.s] at ip
      have hbt := byS_take hkl
      have hpt := piL_take hkl
      rw [List.drop_eq_getElem_cons hkl, erL] at he
      have hnext := fun O h1 h2 h3 h4 h5 => ih (l.length - (k + 1)) (by omega) (k + 1) O (by omega) h1 h2 h3 h4 h5 rfl
      generalize l[k] = x at *
      have ib := fun K => itb_ok x K hx
      unfold rvB at ib
      refine PW.skip ?_; (repeat refine PW.seq ?_); refine PW.block ?_
      (repeat refine PW.seq ?_); refine PW.rg rfl fun K hK => ?_; simp (maxSteps := 3000000) (disch := omega) only [go_sem, ↓reduceIte, reduceCtorEq, pappend, plen]; refine hK _ _ ?_; clear hK K
      by_cases h0 : (itB x).2 = 0
      rotate_left
      · rw [if_neg h0] at he
        rw [if_neg (by rw [he]; exact h0), he] at hr
        have b0 : ((itB x).2 != 0) = true := by simp [h0]
        (repeat refine PW.seq ?_); refine PW.rg rfl fun K hK => ?_; simp (maxSteps := 3000000) (disch := omega) only [go_sem, ↓reduceIte, reduceCtorEq, pappend, plen, ia, ln]; refine VCx.call (ib _) rfl ?_; simp (maxSteps := 3000000) (disch := omega) only [go_sem, ↓reduceIte, reduceCtorEq, pappend, plen]; refine hK _ _ ?_; clear hK K
        (repeat refine PW.seq ?_); refine PW.rg rfl fun K hK => ?_; simp (maxSteps := 3000000) (disch := omega) only [go_sem, ↓reduceIte, reduceCtorEq, pappend, plen, b0]; refine hK _ _ ?_; clear hK K
        (repeat refine PW.seq ?_); refine PW.cond (t := _) rfl (fun h => ?_) (fun h => ?_)
        rotate_left
        · cases h
        (repeat refine PW.seq ?_); refine PW.rg rfl fun K hK => ?_; simp (maxSteps := 3000000) (disch := omega) only [go_sem, ↓reduceIte, reduceCtorEq, pappend, plen]; refine hK _ _ ?_; clear hK K
        refine PW.ret ⟨.tup [.slice [] 0 true, .int .i64 (itB x).2], by simp (maxSteps := 3000000) (disch := omega) only [go_sem, ↓reduceIte, reduceCtorEq, pappend, plen, presults, presult, List.mapM_cons, List.mapM_nil, Option.pure_def, Option.bind_eq_bind, Option.bind_some, Array.toList], ?_⟩
        rw [← hr]
        exact fe _ _
      rw [if_pos h0] at he
      have b0 : ((itB x).2 != 0) = false := by simp [h0]
      obtain ⟨pl1, pl2⟩ := pce_len hx h0
      obtain ⟨pp1, pp2, pp3⟩ := itB_pad h0
      have hbl : (byS (l.take (k + 1))).length = (byS (l.take k)).length + (pce x).length := by rw [hbt, List.length_append]
      have hpce : pce x = (itB x).1 ++ List.replicate x.pad.toNat 0 := rfl
      (repeat refine PW.seq ?_); refine PW.rg rfl fun K hK => ?_; simp (maxSteps := 3000000) (disch := omega) only [go_sem, ↓reduceIte, reduceCtorEq, pappend, plen, ia, ln]; refine VCx.call (ib _) rfl ?_; simp (maxSteps := 3000000) (disch := omega) only [go_sem, ↓reduceIte, reduceCtorEq, pappend, plen]; refine hK _ _ ?_; clear hK K
      (repeat refine PW.seq ?_); refine PW.rg rfl fun K hK => ?_; simp (maxSteps := 3000000) (disch := omega) only [go_sem, ↓reduceIte, reduceCtorEq, pappend, plen, b0]; refine hK _ _ ?_; clear hK K
      (repeat refine PW.seq ?_); refine PW.cond (t := _) rfl (fun h => ?_) (fun h => ?_)
      · cases h
      refine PW.skip ?_
      obtain ⟨N, hN⟩ : ∃ N : Nat, x.pad = (N : Int) := ⟨x.pad.toNat, by omega⟩
      rw [hN] at ip hpce pl1 pp1 pp2
      rw [Int.toNat_natCast] at hpce pl1
      generalize hbb : (itB x).1 = b at *
      generalize hSS : (byS (l.take k)).length = S at *
      generalize hPP : piL (l.take k) = P at *
      refine PW.to [0, 4, 5, 6, 8, 7, 11, 12] [(0, .slice (itL l) l.length f), (4, .msl H.length O.length 0 O.length 1 true), (5, .int .i64 (piL (l.take (k + 1)) : Int)), (6, .int .i64 (S : Int)), (8, .slice (bs b) b.length false), (7, .int .i64 (k : Int)), (11, .int .i64 (l.length : Int)), (12, .int .i64 (k : Int))] (H ++ [⟨5, O.length, bs O⟩]) ?_ ?_
      · by_cases hk3 : x.k = 3
        · have e3 : (x.k == 3) = true := by simp [hk3]
          rw [if_pos hk3] at hpt
          (repeat refine PW.seq ?_); refine PW.rg rfl fun K hK => ?_; simp (maxSteps := 3000000) (disch := omega) only [go_sem, ↓reduceIte, reduceCtorEq, pappend, plen, ln, i0, e3]; refine hK _ _ ?_; clear hK K
          (repeat refine PW.seq ?_); refine PW.cond (t := _) rfl (fun h => ?_) (fun h => ?_)
          rotate_left
          · cases h
          (repeat refine PW.seq ?_); refine PW.rg rfl fun K hK => ?_; simp (maxSteps := 3000000) (disch := omega) only [go_sem, ↓reduceIte, reduceCtorEq, pappend, plen]; refine hK _ _ ?_; clear hK K
          refine ⟨?_, rfl⟩
          rw [hpt]; rfl
        · have e3 : (x.k == 3) = false := by simp [hk3]
          rw [if_neg hk3] at hpt
          (repeat refine PW.seq ?_); refine PW.rg rfl fun K hK => ?_; simp (maxSteps := 3000000) (disch := omega) only [go_sem, ↓reduceIte, reduceCtorEq, pappend, plen, ln, i0, e3]; refine hK _ _ ?_; clear hK K
          (repeat refine PW.seq ?_); refine PW.cond (t := _) rfl (fun h => ?_) (fun h => ?_)
          · cases h
          refine PW.skip ⟨?_, rfl⟩
          rw [hpt]; rfl
      · (repeat refine PW.seq ?_); refine PW.rg rfl fun K hK => ?_; simp (maxSteps := 3000000) (disch := omega) only [go_sem, ↓reduceIte, reduceCtorEq, pappend, plen, ln, ip]; refine hK _ _ ?_; clear hK K
        have hS2 : (byS (l.take (k + 1))).length = S + (b.length + N) := by rw [hbl, pl1]
        have eS : (S : Int) + ((b.length : Int) + (N : Int)) = ((byS (l.take (k + 1))).length : Int) := by rw [hS2]; omega
        have hS3 : (byS (l.take (k + 1))).length ≤ (k + 1) * 30001048576 := by rw [hS2, Nat.add_mul]; omega
        have hP2 : piL (l.take (k + 1)) ≤ k + 1 := by rw [hpt]; split <;> omega
        rw [eS]
        generalize (byS (l.take (k + 1))).length = S' at *
        (repeat refine PW.seq ?_); refine PW.rg rfl fun K hK => ?_; simp (maxSteps := 3000000) (disch := omega) only [go_sem, ↓reduceIte, reduceCtorEq, pappend, plen]; refine hK _ _ ?_; clear hK K
        by_cases hM : S' ≤ 1048576
        · have dM : decide ((S' : Int) ≤ 1048576) = true := decide_eq_true (by omega)
          have hOe := hOb (by omega)
          have hOl : O.length = S := by rw [hOe]; exact hSS
          (repeat refine PW.seq ?_); refine PW.cond (t := _) rfl (fun h => ?_) (fun h => ?_)
          rotate_left
          · rw [dM] at h; cases h
          have be := length_bs b
          have te : List.take b.length (bs b) = bs b := List.take_of_length_le (by omega)
          (repeat refine PW.seq ?_); refine PW.rg rfl fun K hK => ?_; simp (maxSteps := 3000000) (disch := omega) only [go_sem, ↓reduceIte, reduceCtorEq, pappend, plen, te, be, bO, List.length_append]; refine hK _ _ ?_; clear hK K
          have hO2 : O ++ pce x = byS (l.take (k + 1)) := by rw [hbt, hOe]
          have hO3 : (O ++ pce x).length = S' := by rw [List.length_append, pl1]; omega
          have hcel : bs (O ++ pce x) = bs O ++ (bs b ++ reps N [.int .u8 0]) := by rw [hpce, bs_append, bs_append, reps_bs]
          have hfin := hnext (O ++ pce x) he hS3 (by omega) (fun _ => hO2) hP2
          rw [hO3, hcel] at hfin
          have eO : O.length + (b.length + N) = S' := by omega
          by_cases hN0 : N = 0
          · subst hN0
            (repeat refine PW.seq ?_); refine PW.rg rfl fun K hK => ?_; simp (maxSteps := 3000000) (disch := omega) only [go_sem, ↓reduceIte, reduceCtorEq, pappend, plen, ln, ip, be, bO, List.length_append]; refine hK _ _ ?_; clear hK K
            (repeat refine PW.seq ?_); refine PW.rg rfl fun K hK => ?_; simp (maxSteps := 3000000) (disch := omega) only [go_sem, ↓reduceIte, reduceCtorEq, pappend, plen]; refine hK _ _ ?_; clear hK K
            refine PL.at [0, 4, 5, 6, 11, 12] hfin ?_ ?_
            · rw [← eO]; rfl
            · rw [← eO]; simp [reps]
          · have rl : (List.replicate N [PV.int .u8 0]).flatten.length = N := by simp
            (repeat refine PW.seq ?_); refine PW.rg rfl fun K hK => ?_; simp (maxSteps := 3000000) (disch := omega) only [go_sem, ↓reduceIte, reduceCtorEq, pappend, plen, ln, ip, be, bO, List.length_append, hN0, rl]; refine hK _ _ ?_; clear hK K
            (repeat refine PW.seq ?_); refine PW.rg rfl fun K hK => ?_; simp (maxSteps := 3000000) (disch := omega) only [go_sem, ↓reduceIte, reduceCtorEq, pappend, plen]; refine hK _ _ ?_; clear hK K
            refine PL.at [0, 4, 5, 6, 11, 12] hfin ?_ ?_
            · rw [← eO, ← Nat.add_assoc]; rfl
            · rw [← eO, ← Nat.add_assoc]; simp [reps]
        · have dM : decide ((S' : Int) ≤ 1048576) = false := decide_eq_false (by omega)
          (repeat refine PW.seq ?_); refine PW.cond (t := _) rfl (fun h => ?_) (fun h => ?_)
          · rw [dM] at h; cases h
          refine PW.skip ?_
          (repeat refine PW.seq ?_); refine PW.rg rfl fun K hK => ?_; simp (maxSteps := 3000000) (disch := omega) only [go_sem, ↓reduceIte, reduceCtorEq, pappend, plen]; refine hK _ _ ?_; clear hK K
          exact PL.at [0, 4, 5, 6, 11, 12] (hnext O he hS3 hO (fun h => absurd h hM) hP2) rfl rfl
    · have hkl : k = l.length := by have := of_decide_eq_false h; omega
      subst hkl
      rw [List.take_length] at hS hOb hP ⊢
      rw [List.drop_length, erL] at he
      rw [if_pos he] at hr
      refine PW.exit ?_
      generalize byS l = B at *
      generalize piL l = P at *
      by_cases h1 : 256 < P ∨ 1048576 < B.length
      · rw [if_pos h1] at hr
        suffices hrest : PW Tryz.prog _ _ [(62, .bool true)] (H ++ [⟨5, O.length, bs O⟩]) _ by
          by_cases hp1 : 256 < P
          · have d1 : decide ((256 : Int) < (P : Int)) = true := decide_eq_true (by omega)
            (repeat refine PW.seq ?_); refine PW.rg rfl fun K hK => ?_; simp (maxSteps := 3000000) (disch := omega) only [go_sem, ↓reduceIte, reduceCtorEq, pappend, plen, d1]; refine hK _ _ ?_; clear hK K
            exact PW.at [62] hrest rfl rfl
          · have d1 : decide ((256 : Int) < (P : Int)) = false := decide_eq_false (by omega)
            have d2 : decide ((1048576 : Int) < (B.length : Int)) = true := decide_eq_true (by omega)
            (repeat refine PW.seq ?_); refine PW.rg rfl fun K hK => ?_; simp (maxSteps := 3000000) (disch := omega) only [go_sem, ↓reduceIte, reduceCtorEq, pappend, plen, d1, d2]; refine hK _ _ ?_; clear hK K
            exact PW.at [62] hrest rfl rfl
        (repeat refine PW.seq ?_); refine PW.cond (t := _) rfl (fun h => ?_) (fun h => ?_)
        rotate_left
        · cases h
        (repeat refine PW.seq ?_); refine PW.rg rfl fun K hK => ?_; simp (maxSteps := 3000000) (disch := omega) only [go_sem, ↓reduceIte, reduceCtorEq, pappend, plen]; refine hK _ _ ?_; clear hK K
        refine PW.ret ⟨.tup [.slice [] 0 true, .int .i64 5], by simp (maxSteps := 3000000) (disch := omega) only [go_sem, ↓reduceIte, reduceCtorEq, pappend, plen, presults, presult, List.mapM_cons, List.mapM_nil, Option.pure_def, Option.bind_eq_bind, Option.bind_some, Array.toList], ?_⟩
        rw [← hr]
        exact fe 5 _
      · rw [if_neg h1] at hr
        have d1 : decide ((256 : Int) < (P : Int)) = false := decide_eq_false (by omega)
        have d2 : decide ((1048576 : Int) < (B.length : Int)) = false := decide_eq_false (by omega)
        (repeat refine PW.seq ?_); refine PW.rg rfl fun K hK => ?_; simp (maxSteps := 3000000) (disch := omega) only [go_sem, ↓reduceIte, reduceCtorEq, pappend, plen, d1, d2]; refine hK _ _ ?_; clear hK K
        (repeat refine PW.seq ?_); refine PW.cond (t := _) rfl (fun h => ?_) (fun h => ?_)
        · cases h
        refine PW.skip ?_
        (repeat refine PW.seq ?_); refine PW.rg rfl fun K hK => ?_; simp (maxSteps := 3000000) (disch := omega) only [go_sem, ↓reduceIte, reduceCtorEq, pappend, plen]; refine hK _ _ ?_; clear hK K
        refine PW.ret ⟨.tup [.msl H.length O.length 0 O.length 1 true, .int .i64 0], by simp (maxSteps := 3000000) (disch := omega) only [go_sem, ↓reduceIte, reduceCtorEq, pappend, plen, presults, presult, List.mapM_cons, List.mapM_nil, Option.pure_def, Option.bind_eq_bind, Option.bind_some, Array.toList], ?_⟩
        rw [← hr, ← hOb (by omega)]
        refine Fin.base (Fz.tupC ⟨?_, .id (.int _ _), trivial⟩)
        exact Fz.mslC (e := 5) (xs := bs O) (Nat.le_refl _) (hp0 _ _ _) (by rw [bO, Nat.mul_one]) (FzC.refl (bs_scoped _ _))

end Go.Proofs.YtnnkohejhnjflaaGreatDoor.Sc

namespace Go.Proofs.YtnnkohejhnjflaaGreatDoor.Sc
set_option linter.all false
set_option linter.unusedVariables false
set_option linter.unusedSimpArgs false
open Pm Ty S3 Go.RowKit

theorem bytes_ref' (x : It) (H : Heap) (hx : Lt x) : CallOk Tryz.prog 67 [.agg (itc x)] H (rvB (itB x)) H := by
  have := bytes_ref x H hx
  rwa [byR_eq] at this
set_option maxHeartbeats 4000000 in
theorem size_ref (x : It) (H : Heap) (hx : Lt x) : CallOk Tryz.prog 24 [.agg (itc x)] H (szI x) H := by
  have hb := itB_len hx
  have hs := hx.ok.s
  have i1 := itc_cell x
  have i2 := itc_len x hs
  have i4 := itc_pad x hs
  have i9 : List.take 148 (itc x) = itc x := List.take_of_length_le (by omega)
  have ib := fun K => bytes_ref' x K hx
  have hp := hx.ok.pad
  unfold i64r at hp
  have hpd : (itB x).2 = 0 → 0 ≤ x.pad ∧ x.pad ≤ 1048576 := fun h => ⟨(itB_pad h).1, (itB_pad h).2.1⟩
  unfold rvB at ib
  generalize hr : szI x = r
  unfold szI at hr
  generalize (itB x).1 = b at *
  generalize (itB x).2 = e at *
  refine CallOk.body (F0 := [(0, .agg (itc x))]) Tryz.func24 rfl Tryz.ntmps24 Tryz.results24 rfl (by kernel_rfl) rfl ?_
  (repeat refine PW.seq ?_); refine PW.rg rfl fun K hK => ?_; simp (maxSteps := 3000000) (disch := omega) only [go_sem, ↓reduceIte, reduceCtorEq, pappend, plen, i1]; refine hK _ _ ?_; clear hK K
  (repeat refine PW.seq ?_); refine PW.rg rfl fun K hK => ?_; simp (maxSteps := 3000000) (disch := omega) only [go_sem, ↓reduceIte, reduceCtorEq, pappend, plen, i2, i9]; refine VCx.call (ib _) rfl ?_; simp (maxSteps := 3000000) (disch := omega) only [go_sem, ↓reduceIte, reduceCtorEq, pappend, plen]; refine hK _ _ ?_; clear hK K
  by_cases he : e = 0
  · rw [if_pos he] at hr
    have be : (e != 0) = false := by simp [he]
    have hp2 := hpd he
    (repeat refine PW.seq ?_); refine PW.rg rfl fun K hK => ?_; simp (maxSteps := 3000000) (disch := omega) only [go_sem, ↓reduceIte, reduceCtorEq, pappend, plen, be]; refine hK _ _ ?_; clear hK K
    (repeat refine PW.seq ?_); refine PW.cond (t := _) rfl (fun h => ?_) (fun h => ?_)
    · cases h
    refine PW.skip ?_
    (repeat refine PW.seq ?_); refine PW.rg rfl fun K hK => ?_; simp (maxSteps := 3000000) (disch := omega) only [go_sem, ↓reduceIte, reduceCtorEq, pappend, plen, i4]; refine hK _ _ ?_; clear hK K
    refine PW.ret ⟨.tup [.int .i64 ((b.length : Int) + x.pad), .int .i64 0], by simp (maxSteps := 3000000) (disch := omega) only [go_sem, ↓reduceIte, reduceCtorEq, pappend, plen, presults, presult, List.mapM_cons, List.mapM_nil, Option.pure_def, Option.bind_eq_bind, Option.bind_some, Array.toList], ?_⟩
    rw [← hr]
    exact Fin.base (.id (.tup (all_scoped fun y hy => by
      simp only [List.mem_cons, List.not_mem_nil, or_false] at hy
      rcases hy with rfl | rfl <;> exact .int _ _)))
  · rw [if_neg he] at hr
    have be : (e != 0) = true := by simp [he]
    (repeat refine PW.seq ?_); refine PW.rg rfl fun K hK => ?_; simp (maxSteps := 3000000) (disch := omega) only [go_sem, ↓reduceIte, reduceCtorEq, pappend, plen, be]; refine hK _ _ ?_; clear hK K
    (repeat refine PW.seq ?_); refine PW.cond (t := _) rfl (fun h => ?_) (fun h => ?_)
    rotate_left
    · cases h
    (repeat refine PW.seq ?_); refine PW.rg rfl fun K hK => ?_; simp (maxSteps := 3000000) (disch := omega) only [go_sem, ↓reduceIte, reduceCtorEq, pappend, plen]; refine hK _ _ ?_; clear hK K
    refine PW.ret ⟨.tup [.int .i64 0, .int .i64 e], by simp (maxSteps := 3000000) (disch := omega) only [go_sem, ↓reduceIte, reduceCtorEq, pappend, plen, presults, presult, List.mapM_cons, List.mapM_nil, Option.pure_def, Option.bind_eq_bind, Option.bind_some, Array.toList], ?_⟩
    rw [← hr]
    exact Fin.base (.id (.tup (all_scoped fun y hy => by
      simp only [List.mem_cons, List.not_mem_nil, or_false] at hy
      rcases hy with rfl | rfl <;> exact .int _ _)))
theorem erL_all : ∀ {l : List It}, erL l = 0 → ∀ x ∈ l, (itB x).2 = 0
  | [], _, x, hx => by cases hx
  | y :: r, h, x, hx => by
    unfold erL at h
    split at h
    · rename_i h1
      rcases List.mem_cons.1 hx with rfl | hx
      · exact h1
      · exact erL_all h x hx
    · rename_i h1
      exact absurd h h1
theorem byS_mono {l : List It} {k : Nat} (h : k < l.length) : (byS (l.take (k + 1))).length = (byS (l.take k)).length + (pce l[k]).length := by
  rw [byS_take h, List.length_append]

set_option maxHeartbeats 8000000 in
set_option maxRecDepth 100000 in
theorem fmts_ref (l : List It) (f : Bool) (H : Heap) (hl : Lts l) : CallOk Tryz.prog 26 [.slice (itL l) l.length f] H (rvB (fmS l)) H := by
  have hn := hl.n
  have ln := itL_len l hl.s
  have fe : ∀ (e : Int) (K : Heap), Fin H (rvB ([], e)) H (.tup [.slice [] 0 true, .int .i64 e]) (H ++ K) := fun e K =>
    Fin.base (Fz.tupC ⟨Fz.sliceC trivial (fun e => by cases e), .id (.int _ _), trivial⟩)
  have fe0 : ∀ (e : Int), Fin H (rvB ([], e)) H (.tup [.slice [] 0 true, .int .i64 e]) H := fun e => by
    have := fe e []
    rwa [List.append_nil] at this
  generalize hr : fmS l = r
  unfold fmS at hr
  refine CallOk.body (F0 := [(0, .slice (itL l) l.length f)]) Tryz.func26 rfl Tryz.ntmps26 Tryz.results26 rfl (by kernel_rfl) rfl ?_
  (repeat refine PW.seq ?_); refine PW.rg rfl fun K hK => ?_; simp (maxSteps := 3000000) (disch := omega) only [go_sem, ↓reduceIte, reduceCtorEq, pappend, plen]; refine hK _ _ ?_; clear hK K
  (repeat refine PW.seq ?_); refine PW.rg rfl fun K hK => ?_; simp (maxSteps := 3000000) (disch := omega) only [go_sem, ↓reduceIte, reduceCtorEq, pappend, plen]; refine hK _ _ ?_; clear hK K
  (repeat refine PW.seq ?_); refine PW.rg rfl fun K hK => ?_; simp (maxSteps := 3000000) (disch := omega) only [go_sem, ↓reduceIte, reduceCtorEq, pappend, plen]; refine hK _ _ ?_; clear hK K
  (repeat refine PW.seq ?_); refine PW.block (PW.loop ?_)
  suffices hloop : ∀ (k : Nat), k ≤ l.length → erL l = erL (l.drop k) → piL (l.take k) ≤ k →
      PL Tryz.prog _ _ [(0, .slice (itL l) l.length f), (4, .int .i64 (piL (l.take k) : Int)), (5, .int .i64 ((min (byS (l.take k)).length 1048577 : Nat) : Int)), (6, .int .i64 (k : Int))] H _ by
    exact PL.at [0, 4, 5, 6] (hloop 0 (by omega) rfl (by simp [piL])) rfl rfl
  intro k hk he hP
  induction hd : l.length - k using Nat.strongRecOn generalizing k with
  | _ d ih =>
    refine PL.round ?_; (repeat refine PW.seq ?_); refine PW.rg rfl fun K hK => ?_; simp (maxSteps := 3000000) (disch := omega) only [go_sem, ↓reduceIte, reduceCtorEq, pappend, plen]; refine hK _ _ ?_; clear hK K
    (repeat refine PW.seq ?_); refine PW.cond (t := _) rfl (fun h => ?_) (fun h => ?_)
    · have hkl : k < l.length := by have := of_decide_eq_true h; omega
      have ia := itL_at l hl.s k hkl
      have i0 := itL_get l hl.s k 0 hkl (by omega)
      have hx := hl.i l[k] (List.getElem_mem hkl)
      rw [itc_0, Nat.add_zero] at i0
      have hbt := byS_mono hkl
      have hpt := piL_take hkl
      rw [List.drop_eq_getElem_cons hkl, erL] at he
      have hnext := fun h1 h2 => ih (l.length - (k + 1)) (by omega) (k + 1) (by omega) h1 h2 rfl
      generalize l[k] = x at *
      have ib := fun K => size_ref x K hx
      unfold szI at ib
      refine PW.skip ?_; (repeat refine PW.seq ?_); refine PW.block ?_
      by_cases h0 : (itB x).2 = 0
      rotate_left
      · rw [if_neg h0] at he
        rw [if_neg (by rw [he]; exact h0), he] at hr
        have b0 : ((itB x).2 != 0) = true := by simp [h0]
        rw [if_neg h0] at ib
        (repeat refine PW.seq ?_); refine PW.rg rfl fun K hK => ?_; simp (maxSteps := 3000000) (disch := omega) only [go_sem, ↓reduceIte, reduceCtorEq, pappend, plen, ia, ln]; refine VCx.call (ib _) rfl ?_; simp (maxSteps := 3000000) (disch := omega) only [go_sem, ↓reduceIte, reduceCtorEq, pappend, plen]; refine hK _ _ ?_; clear hK K
        (repeat refine PW.seq ?_); refine PW.rg rfl fun K hK => ?_; simp (maxSteps := 3000000) (disch := omega) only [go_sem, ↓reduceIte, reduceCtorEq, pappend, plen, b0]; refine hK _ _ ?_; clear hK K
        (repeat refine PW.seq ?_); refine PW.cond (t := _) rfl (fun h => ?_) (fun h => ?_)
        rotate_left
        · cases h
        (repeat refine PW.seq ?_); refine PW.rg rfl fun K hK => ?_; simp (maxSteps := 3000000) (disch := omega) only [go_sem, ↓reduceIte, reduceCtorEq, pappend, plen]; refine hK _ _ ?_; clear hK K
        refine PW.ret ⟨.tup [.slice [] 0 true, .int .i64 (itB x).2], by simp (maxSteps := 3000000) (disch := omega) only [go_sem, ↓reduceIte, reduceCtorEq, pappend, plen, presults, presult, List.mapM_cons, List.mapM_nil, Option.pure_def, Option.bind_eq_bind, Option.bind_some, Array.toList], ?_⟩
        rw [← hr]
        exact fe0 _
      rw [if_pos h0] at he
      rw [if_pos h0] at ib
      obtain ⟨pl1, pl2⟩ := pce_len hx h0
      obtain ⟨pp1, pp2, pp3⟩ := itB_pad h0
      have hP2 : piL (l.take (k + 1)) ≤ k + 1 := by rw [hpt]; split <;> omega
      have hfin := hnext he hP2
      have hbl := itB_len hx
      generalize (itB x).1 = b at *
      generalize (byS (l.take k)).length = S at *
      rw [pl1] at hbt
      generalize (byS (l.take (k + 1))).length = S' at *
      have hS : ((min S' 1048577 : Nat) : Int) = if (1048577 : Int) < ((min S 1048577 : Nat) : Int) + ((b.length : Int) + x.pad) then 1048577 else ((min S 1048577 : Nat) : Int) + ((b.length : Int) + x.pad) := by
        split <;> omega
      have hmn : min S 1048577 ≤ 1048577 := Nat.min_le_right _ _
      generalize min S 1048577 = T at *
      generalize min S' 1048577 = T' at *
      (repeat refine PW.seq ?_); refine PW.rg rfl fun K hK => ?_; simp (maxSteps := 3000000) (disch := omega) only [go_sem, ↓reduceIte, reduceCtorEq, pappend, plen, ia, ln]; refine VCx.call (ib _) rfl ?_; simp (maxSteps := 3000000) (disch := omega) only [go_sem, ↓reduceIte, reduceCtorEq, pappend, plen]; refine hK _ _ ?_; clear hK K
      (repeat refine PW.seq ?_); refine PW.rg rfl fun K hK => ?_; simp (maxSteps := 3000000) (disch := omega) only [go_sem, ↓reduceIte, reduceCtorEq, pappend, plen]; refine hK _ _ ?_; clear hK K
      (repeat refine PW.seq ?_); refine PW.cond (t := _) rfl (fun h => ?_) (fun h => ?_)
      · cases h
      refine PW.skip ?_
      (repeat refine PW.seq ?_); refine PW.rg rfl fun K hK => ?_; simp (maxSteps := 3000000) (disch := omega) only [go_sem, ↓reduceIte, reduceCtorEq, pappend, plen, ← hS]; refine hK _ _ ?_; clear hK K
      by_cases hk3 : x.k = 3
      · have e3 : (x.k == 3) = true := by simp [hk3]
        rw [if_pos hk3] at hpt
        rw [hpt] at hfin
        (repeat refine PW.seq ?_); refine PW.rg rfl fun K hK => ?_; simp (maxSteps := 3000000) (disch := omega) only [go_sem, ↓reduceIte, reduceCtorEq, pappend, plen, ln, i0, e3]; refine hK _ _ ?_; clear hK K
        (repeat refine PW.seq ?_); refine PW.cond (t := _) rfl (fun h => ?_) (fun h => ?_)
        rotate_left
        · cases h
        (repeat refine PW.seq ?_); refine PW.rg rfl fun K hK => ?_; simp (maxSteps := 3000000) (disch := omega) only [go_sem, ↓reduceIte, reduceCtorEq, pappend, plen]; refine hK _ _ ?_; clear hK K
        (repeat refine PW.seq ?_); refine PW.rg rfl fun K hK => ?_; simp (maxSteps := 3000000) (disch := omega) only [go_sem, ↓reduceIte, reduceCtorEq, pappend, plen]; refine hK _ _ ?_; clear hK K
        exact PL.at [0, 4, 5, 6] hfin rfl rfl
      · have e3 : (x.k == 3) = false := by simp [hk3]
        rw [if_neg hk3] at hpt
        rw [hpt] at hfin
        (repeat refine PW.seq ?_); refine PW.rg rfl fun K hK => ?_; simp (maxSteps := 3000000) (disch := omega) only [go_sem, ↓reduceIte, reduceCtorEq, pappend, plen, ln, i0, e3]; refine hK _ _ ?_; clear hK K
        (repeat refine PW.seq ?_); refine PW.cond (t := _) rfl (fun h => ?_) (fun h => ?_)
        · cases h
        refine PW.skip ?_
        (repeat refine PW.seq ?_); refine PW.rg rfl fun K hK => ?_; simp (maxSteps := 3000000) (disch := omega) only [go_sem, ↓reduceIte, reduceCtorEq, pappend, plen]; refine hK _ _ ?_; clear hK K
        exact PL.at [0, 4, 5, 6] hfin rfl rfl
    · have hkl : k = l.length := by have := of_decide_eq_false h; omega
      subst hkl
      rw [List.take_length] at hP ⊢
      rw [List.drop_length, erL] at he
      rw [if_pos he] at hr
      have hall := erL_all he
      refine PW.exit ?_
      clear ih
      by_cases h1 : 256 < piL l ∨ 1048576 < (byS l).length
      · rw [if_pos h1] at hr
        generalize (byS l).length = B at *
        generalize piL l = P at *
        suffices hrest : PW Tryz.prog _ _ [(47, .bool true)] H _ by
          by_cases hp1 : 256 < P
          · have d1 : decide ((256 : Int) < (P : Int)) = true := decide_eq_true (by omega)
            (repeat refine PW.seq ?_); refine PW.rg rfl fun K hK => ?_; simp (maxSteps := 3000000) (disch := omega) only [go_sem, ↓reduceIte, reduceCtorEq, pappend, plen, d1]; refine hK _ _ ?_; clear hK K
            exact PW.at [47] hrest rfl rfl
          · have d1 : decide ((256 : Int) < (P : Int)) = false := decide_eq_false (by omega)
            have d2 : decide ((1048576 : Int) < ((min B 1048577 : Nat) : Int)) = true := decide_eq_true (by omega)
            (repeat refine PW.seq ?_); refine PW.rg rfl fun K hK => ?_; simp (maxSteps := 3000000) (disch := omega) only [go_sem, ↓reduceIte, reduceCtorEq, pappend, plen, d1, d2]; refine hK _ _ ?_; clear hK K
            exact PW.at [47] hrest rfl rfl
        (repeat refine PW.seq ?_); refine PW.cond (t := _) rfl (fun h => ?_) (fun h => ?_)
        rotate_left
        · cases h
        (repeat refine PW.seq ?_); refine PW.rg rfl fun K hK => ?_; simp (maxSteps := 3000000) (disch := omega) only [go_sem, ↓reduceIte, reduceCtorEq, pappend, plen]; refine hK _ _ ?_; clear hK K
        refine PW.ret ⟨.tup [.slice [] 0 true, .int .i64 5], by simp (maxSteps := 3000000) (disch := omega) only [go_sem, ↓reduceIte, reduceCtorEq, pappend, plen, presults, presult, List.mapM_cons, List.mapM_nil, Option.pure_def, Option.bind_eq_bind, Option.bind_some, Array.toList], ?_⟩
        rw [← hr]
        exact fe0 5
      rw [if_neg h1] at hr
      have d1 : decide ((256 : Int) < (piL l : Int)) = false := decide_eq_false (by omega)
      have d2 : decide ((1048576 : Int) < ((min (byS l).length 1048577 : Nat) : Int)) = false := decide_eq_false (by omega)
      (repeat refine PW.seq ?_); refine PW.rg rfl fun K hK => ?_; simp (maxSteps := 3000000) (disch := omega) only [go_sem, ↓reduceIte, reduceCtorEq, pappend, plen, d1, d2]; refine hK _ _ ?_; clear hK K
      (repeat refine PW.seq ?_); refine PW.cond (t := _) rfl (fun h => ?_) (fun h => ?_)
      · cases h
      refine PW.skip ?_
      (repeat refine PW.seq ?_); refine PW.rg rfl fun K hK => ?_; simp (maxSteps := 3000000) (disch := omega) only [go_sem, ↓reduceIte, reduceCtorEq, pappend, plen]; refine hK _ _ ?_; clear hK K
      refine PW.view (Vs.ghost 9 5 1 rfl) ?_
      (repeat refine PW.seq ?_); refine PW.rg rfl fun K hK => ?_; simp (maxSteps := 3000000) (disch := omega) only [go_sem, ↓reduceIte, reduceCtorEq, pappend, plen]; refine hK _ _ ?_; clear hK K
      (repeat refine PW.seq ?_); refine PW.block (PW.loop ?_)
      suffices hloop2 : ∀ (k : Nat) (O : List UInt8), k ≤ l.length → O = byS (l.take k) →
          PL Tryz.prog _ _ [(0, .slice (itL l) l.length f), (9, .msl H.length O.length 0 O.length 1 true), (10, .int .i64 (k : Int))] (H ++ [⟨5, O.length, bs O⟩]) _ by
        exact PL.at [0, 9, 10] (hloop2 0 [] (by omega) (by simp [byS])) rfl rfl
      intro k O hk hO
      induction hd : l.length - k using Nat.strongRecOn generalizing k O with
      | _ d ih =>
        have bO := length_bs O
        have hOl : O.length ≤ 1048576 := by
          have e : byS l = byS (l.take k) ++ byS (l.drop k) := by unfold byS; rw [← List.flatMap_append, List.take_append_drop]
          have e2 := congrArg List.length e
          rw [List.length_append, ← hO] at e2
          omega
        refine PL.round ?_; (repeat refine PW.seq ?_); refine PW.rg rfl fun K hK => ?_; simp (maxSteps := 3000000) (disch := omega) only [go_sem, ↓reduceIte, reduceCtorEq, pappend, plen]; refine hK _ _ ?_; clear hK K
        (repeat refine PW.seq ?_); refine PW.cond (t := _) rfl (fun h => ?_) (fun h => ?_)
        · have hkl : k < l.length := by have := of_decide_eq_true h; omega
          have ia := itL_at l hl.s k hkl
          have ip := itL_get l hl.s k 147 hkl (by omega)
          have hx := hl.i l[k] (List.getElem_mem hkl)
          rw [itc_pad _ hx.ok.s] at ip
          have hbt := byS_take hkl
          have h0 := hall l[k] (List.getElem_mem hkl)
          have hnext := fun O h1 => ih (l.length - (k + 1)) (by omega) (k + 1) O (by omega) h1 rfl
          generalize l[k] = x at *
          have ib := fun K => bytes_ref' x K hx
          unfold rvB at ib
          rw [h0] at ib
          obtain ⟨pl1, pl2⟩ := pce_len hx h0
          obtain ⟨pp1, pp2, pp3⟩ := itB_pad h0
          have hpce : pce x = (itB x).1 ++ List.replicate x.pad.toNat 0 := rfl
          obtain ⟨N, hN⟩ : ∃ N : Nat, x.pad = (N : Int) := ⟨x.pad.toNat, by omega⟩
          rw [hN] at ip hpce pl1 pp1 pp2
          rw [Int.toNat_natCast] at hpce pl1
          have hbl := itB_len hx
          generalize (itB x).1 = b at *
          have hO3 : (O ++ pce x).length = O.length + (b.length + N) := by rw [List.length_append, pl1]
          have hfin := hnext (O ++ pce x) (by rw [hbt, hO])
          have hcel : bs (O ++ pce x) = bs O ++ (bs b ++ reps N [.int .u8 0]) := by rw [hpce, bs_append, bs_append, reps_bs]
          rw [hO3, hcel, ← Nat.add_assoc] at hfin
          have be := length_bs b
          have te : List.take b.length (bs b) = bs b := List.take_of_length_le (by omega)
          refine PW.skip ?_; (repeat refine PW.seq ?_); refine PW.block ?_
          (repeat refine PW.seq ?_); refine PW.rg rfl fun K hK => ?_; simp (maxSteps := 3000000) (disch := omega) only [go_sem, ↓reduceIte, reduceCtorEq, pappend, plen, ia, ln]; refine VCx.call (ib _) rfl ?_; simp (maxSteps := 3000000) (disch := omega) only [go_sem, ↓reduceIte, reduceCtorEq, pappend, plen]; refine hK _ _ ?_; clear hK K
          by_cases hN0 : N = 0
          · subst hN0
            (repeat refine PW.seq ?_); refine PW.drawi [H.length] [(9, [0]), (62, [0]), (64, [0]), (70, [0])] [] [] mix (by kernel_rfl) (by simp <;> omega) fun K hK => ?_
            simp (maxSteps := 3000000) (disch := omega) only [go_sem, ↓reduceIte, reduceCtorEq, pappend, plen, ln, ip, te, be, bO, List.length_append]
            refine hK _ _ ?_; clear hK K
            (repeat refine PW.seq ?_); refine PW.rg rfl fun K hK => ?_; simp (maxSteps := 3000000) (disch := omega) only [go_sem, ↓reduceIte, reduceCtorEq, pappend, plen]; refine hK _ _ ?_; clear hK K
            refine PL.at [0, 9, 10] hfin rfl ?_
            simp [reps]
          · have rl : (List.replicate N [PV.int .u8 0]).flatten.length = N := by simp
            (repeat refine PW.seq ?_); refine PW.drawi [H.length] [(9, [0]), (62, [0]), (64, [0]), (70, [0])] [] [] mix (by kernel_rfl) (by simp <;> omega) fun K hK => ?_
            simp (maxSteps := 3000000) (disch := omega) only [go_sem, ↓reduceIte, reduceCtorEq, pappend, plen, ln, ip, te, be, bO, List.length_append, hN0, rl]
            refine hK _ _ ?_; clear hK K
            (repeat refine PW.seq ?_); refine PW.rg rfl fun K hK => ?_; simp (maxSteps := 3000000) (disch := omega) only [go_sem, ↓reduceIte, reduceCtorEq, pappend, plen]; refine hK _ _ ?_; clear hK K
            refine PL.at [0, 9, 10] hfin (by simp [kp, slot, Nat.beq, Nat.add_assoc]) ?_
            simp [reps, Nat.add_assoc]
        · have hkl : k = l.length := by have := of_decide_eq_false h; omega
          subst hkl
          rw [List.take_length] at hO
          refine PW.exit ?_
          (repeat refine PW.seq ?_); refine PW.rg rfl fun K hK => ?_; simp (maxSteps := 3000000) (disch := omega) only [go_sem, ↓reduceIte, reduceCtorEq, pappend, plen]; refine hK _ _ ?_; clear hK K
          refine PW.ret ⟨.tup [.msl H.length O.length 0 O.length 1 true, .int .i64 0], by simp (maxSteps := 3000000) (disch := omega) only [go_sem, ↓reduceIte, reduceCtorEq, pappend, plen, presults, presult, List.mapM_cons, List.mapM_nil, Option.pure_def, Option.bind_eq_bind, Option.bind_some, Array.toList], ?_⟩
          rw [← hr, ← hO]
          refine Fin.base (Fz.tupC ⟨?_, .id (.int _ _), trivial⟩)
          exact Fz.mslC (e := 5) (xs := bs O) (Nat.le_refl _) (hp0 _ _ _) (by rw [bO, Nat.mul_one]) (FzC.refl (bs_scoped _ _))

end Go.Proofs.YtnnkohejhnjflaaGreatDoor.Sc

namespace Go.Proofs.YtnnkohejhnjflaaGreatDoor.Sc
set_option linter.all false
set_option linter.unusedVariables false
set_option linter.unusedSimpArgs false
open Pm Ty Go.RowKit

theorem vseq_16 {s : Sq} (h : vseq s = true) : s.w = 16 * (s.w / 16) ∧ s.h = 16 * (s.h / 16) := by
  have h0 := vseq_h h
  simp only [vseq, vsz, mbs, Bool.and_eq_true, decide_eq_true_eq, beq_iff_eq] at h
  obtain ⟨⟨⟨⟨_, h1⟩, ⟨_, h2⟩⟩, _⟩, _⟩ := h
  rw [Int.tmod_eq_emod_of_nonneg (by omega)] at h1 h2
  omega
theorem payload_at (L : List Bool) : AtB (pk (L ++ [true])) 0 L := fun i hi => by
  obtain ⟨_, _, _, _, h⟩ := pk_payload L
  rw [Nat.zero_add]; exact h i hi
/-- Where the matrices begin, and what was read ahead of them. -/
theorem rf_put (st : Bool) {s : Sq} (hv : vseq s = true) {q : List UInt8} {n : Nat} (h0 : AtB q 0 (sbits s)) (h0n : 0 + (sbits s).length ≤ n) :
    rw' st q n = ((s.w / 16).toNat, 8, 0) ∧ rh' st q n = ((s.h / 16).toNat, 16, 0) ∧ rn' st q n = (s.num.toNat, 48, 0) ∧ rd' st q n = (s.den.toNat, 80, 0) ∧ ri' st q n = (s.il.toNat, 81, 0) ∧ rb' st q n = (s.br.toNat, 113, 0) ∧ rf' st q n = (s.bf.toNat, 145, 0) ∧
      AtB q 145 (mxb s.ia dIn ++ mxb s.ie dIt) ∧ 145 + (mxb s.ia dIn ++ mxb s.ie dIt).length ≤ n := by
  obtain ⟨v1, v2, v3, v4, v5, v6⟩ := vseq_f hv
  unfold sbits at h0 h0n
  obtain ⟨e1, h1, m1⟩ := h0.nm (st := st) (by omega) h0n
  obtain ⟨e2, h2, m2⟩ := h1.nm (st := st) (by omega) m1
  obtain ⟨e3, h3, m3⟩ := h2.nm (st := st) (by omega) m2
  obtain ⟨e4, h4, m4⟩ := h3.nm (st := st) (by omega) m3
  obtain ⟨e5, h5, m5⟩ := h4.flag (st := st) m4
  obtain ⟨e6, h6, m6⟩ := h5.nm (st := st) (by omega) m5
  obtain ⟨e7, h7, m7⟩ := h6.nm (st := st) (by omega) m6
  unfold rf' rb' ri' rd' rn' rh' rw'
  rw [e1, e2, e3, e4, e5, e6, e7]
  exact ⟨rfl, rfl, rfl, rfl, rfl, rfl, rfl, h7, m7⟩
theorem ra_put {st : Bool} {q : List UInt8} {n : Nat} {m : List UInt8} {l : List Bool} {V : Nat} (hm : m.length = 64) (e : rf' st q n = (V, 145, 0)) (h : AtB q 145 (mxb m dIn ++ l)) (hn : 145 + (mxb m dIn ++ l).length ≤ n) :
    ra' st q n = (m, 145 + (mxb m dIn).length, 0) ∧ AtB q (145 + (mxb m dIn).length) l ∧ 145 + (mxb m dIn).length + l.length ≤ n := by
  unfold ra'
  rw [e]
  exact rdM_put (st := st) hm h hn
theorem re_put {st : Bool} {q : List UInt8} {n a : Nat} {m m' : List UInt8} (hm : m.length = 64) (e : ra' st q n = (m', a, 0)) (h : AtB q a (mxb m dIt)) (hn : a + (mxb m dIt).length ≤ n) :
    re' st q n = (m, a + (mxb m dIt).length, 0) := by
  unfold re'
  rw [e]
  have h' : AtB q a (mxb m dIt ++ []) := by rw [List.append_nil]; exact h
  exact (rdM_put (st := st) hm h' (by rw [List.append_nil]; exact hn)).1
theorem rdS_of {st : Bool} {q : List UInt8} {n : Nat} {a b c d e f g : Nat × Nat × Nat} {x y : List UInt8 × Nat × Nat} (h1 : rw' st q n = a) (h2 : rh' st q n = b) (h3 : rn' st q n = c) (h4 : rd' st q n = d) (h5 : ri' st q n = e) (h6 : rb' st q n = f) (h7 : rf' st q n = g) (h8 : ra' st q n = x) (h9 : re' st q n = y) :
    rdS st q n = ⟨16 * (a.1 : Int), 16 * (b.1 : Int), (c.1 : Int), (d.1 : Int), decide (e.1 = 1), (f.1 : Int), (g.1 : Int), x.1, y.1⟩ := by
  unfold rdS
  rw [h1, h2, h3, h4, h5, h6, h7, h8, h9]
theorem sq_same {s : Sq} (hv : vseq s = true) : (⟨16 * (((s.w / 16).toNat : Nat) : Int), 16 * (((s.h / 16).toNat : Nat) : Int), ((s.num.toNat : Nat) : Int), ((s.den.toNat : Nat) : Int), decide (s.il.toNat = 1), ((s.br.toNat : Nat) : Int), ((s.bf.toNat : Nat) : Int), s.ia, s.ie⟩ : Sq) = s := by
  obtain ⟨w1, w2⟩ := vseq_16 hv
  obtain ⟨v1, v2, v3, v4, v5, v6⟩ := vseq_f hv
  obtain ⟨w, h, num, den, il, br, bf, ia, ie⟩ := s
  dsimp only at *
  have hb : decide (il.toNat = 1) = il := by cases il <;> rfl
  rw [hb]
  congr 1 <;> omega
theorem rdS_put (st : Bool) {s : Sq} (hs : SqOk s) (hv : vseq s = true) :
    (pk (sbits s ++ [true])).length ≠ 0 ∧ lastB (pk (sbits s ++ [true])) ≠ 0 ∧ (re' st (pk (sbits s ++ [true])) (nb (pk (sbits s ++ [true])))).2.2 = 0 ∧ rdS st (pk (sbits s ++ [true])) (nb (pk (sbits s ++ [true]))) = s := by
  obtain ⟨p1, p2, p3, p4, _⟩ := pk_payload (sbits s)
  refine ⟨p1, p2, ?_⟩
  rw [p3]
  obtain ⟨e1, e2, e3, e4, e5, e6, e7, h7, m7⟩ := rf_put st hv (payload_at (sbits s)) (n := (sbits s).length) (by omega)
  obtain ⟨e8, h8, m8⟩ := ra_put hs.ia e7 h7 m7
  have e9 := re_put hs.ie e8 h8 m8
  exact ⟨by rw [e9], (rdS_of e1 e2 e3 e4 e5 e6 e7 e8 e9).trans (sq_same hv)⟩
theorem takeS_put {st : Bool} {s : Sq} (hs : SqOk s) (hv : vseq s = true) : takeS st 179 (pk (sbits s ++ [true])) = (s, 0) := by
  obtain ⟨h1, h2, h3, h4⟩ := rdS_put st hs hv
  unfold takeS
  rw [if_pos ⟨rfl, h1, h2⟩, h4, if_pos ⟨h3, hv, rfl⟩]
theorem takeS_eq (t : Int) (q : List UInt8) : takeS false t q = takeS true t q := by
  by_cases h0 : t = 179 ∧ q.length ≠ 0 ∧ lastB q ≠ 0
  rotate_left
  · unfold takeS
    rw [if_neg h0, if_neg h0]
  have key : ∀ st st', ((re' st q (nb q)).2.2 = 0 ∧ vseq (rdS st q (nb q)) = true ∧ pk (sbits (rdS st q (nb q)) ++ [true]) = q) → takeS st' t q = (rdS st q (nb q), 0) := fun st st' ⟨_, h2, h3⟩ => by
    have := takeS_put (st := st') (rdS_ok st q (nb q)) h2
    rw [h3] at this
    rw [h0.1]; exact this
  by_cases h1 : (re' true q (nb q)).2.2 = 0 ∧ vseq (rdS true q (nb q)) = true ∧ pk (sbits (rdS true q (nb q)) ++ [true]) = q
  · rw [key true false h1, key true true h1]
  · by_cases h2 : (re' false q (nb q)).2.2 = 0 ∧ vseq (rdS false q (nb q)) = true ∧ pk (sbits (rdS false q (nb q)) ++ [true]) = q
    · rw [key false false h2, key false true h2]
    · unfold takeS
      rw [if_pos h0, if_pos h0, if_neg h1, if_neg h2]
theorem takeG_put {c b : Bool} {t : Int} (h : 0 ≤ t ∧ t < 16777216) : takeG 184 (pk (gbits c b t ++ [true])) = (c, b, t, 0) := by
  obtain ⟨p1, p2, p3, p4, _⟩ := pk_payload (gbits c b t)
  have h0 := payload_at (gbits c b t)
  have hl : (gbits c b t).length = 26 := by simp [gbits, vbits_len]
  rw [hl] at p3
  unfold takeG
  rw [if_pos ⟨rfl, p1, p2, p3⟩]
  generalize pk (gbits c b t ++ [true]) = q at *
  have hg : gbits c b t = [c] ++ ([b] ++ vbits t.toNat 24) := rfl
  rw [hg] at h0
  obtain ⟨e1, h1, m1⟩ := h0.flag (st := true) (n := 26) (by simp [vbits_len])
  obtain ⟨e2, h2, m2⟩ := h1.flag (st := true) m1
  have h3 := h2.vl (by omega)
  rw [nm_in (by omega)] at e1 e2
  have e1' := congrArg (·.1) e1
  have e2' := congrArg (·.1) e2
  dsimp only at e1' e2'
  rw [show (0 + 1 : Nat) = 1 from rfl] at e2'
  rw [show (0 + 1 + 1 : Nat) = 2 from rfl] at h3
  rw [e1', e2', h3]
  have hb : ∀ b : Bool, decide (b.toNat = 1) = b := fun b => by cases b <;> rfl
  rw [hb, hb]
  congr 3
  omega

end Go.Proofs.YtnnkohejhnjflaaGreatDoor.Sc

namespace Go.Proofs.YtnnkohejhnjflaaGreatDoor.Sc
set_option linter.all false
set_option linter.unusedVariables false
set_option linter.unusedSimpArgs false
open Pm Ty Go.RowKit

theorem sqE_self (s : Sq) : sqE s s = true := by simp [sqE, sqA]
theorem neSq (s : Sq) (hs : SqL s) : peqG Tryz.prog .neq 26 (.agg (sqc s)) (.agg (sqc s)) = some (.bool false) := by
  have e : ∀ x y, peqG Tryz.prog .neq 26 x y = match peqT Tryz.prog 12 26 x y with | some b => peq .neq b | none => none := fun x y => by kernel_rfl
  rw [e, peqT_sq, peqF_ap _ _ _ _ _ _ (sq2_def _ _ _ _ _ _ _ _ (rdIa s hs) (rdIa s hs) (eqU _ _ hs.ia hs.ia) (rdIe s hs) (rdIe s hs) (eqU _ _ hs.ie hs.ie)) (sqF6 Tryz.prog) (sqA s s) (sq6 ..)]
  have := sqE_self s
  unfold sqE at this
  rw [this]
  rfl
theorem eqGr (a b a' b' : Bool) (t t' : Int) : peqG Tryz.prog .eql 28 (.agg [.bool a, .bool b, .int .i64 t]) (.agg [.bool a', .bool b', .int .i64 t']) = some (.bool ((a == a') && ((b == b') && ((t == t') && true)))) := by kernel_rfl
theorem neGr0 (a b a' b' : Bool) (t t' : Int) : peqG Tryz.prog .neq 28 (.agg [.bool a, .bool b, .int .i64 t]) (.agg [.bool a', .bool b', .int .i64 t']) = some (.bool !((a == a') && ((b == b') && ((t == t') && true)))) := by kernel_rfl
theorem neGr (a b : Bool) (t : Int) : peqG Tryz.prog .neq 28 (.agg [.bool a, .bool b, .int .i64 t]) (.agg [.bool a, .bool b, .int .i64 t]) = some (.bool false) := by
  rw [neGr0]; simp
theorem putS_e (s : Sq) : ((putS s).2.2 == 0) = vseq s := by
  unfold putS
  cases vseq s <;> rfl
theorem takeS_ok2 {st : Bool} {t : Int} {q : List UInt8} : SqOk (takeS st t q).1 := by
  unfold takeS
  split
  · split
    · exact rdS_ok _ _ _
    · exact zSq_ok
  · exact zSq_ok
theorem get_ext' {M X : Heap} {i : Nat} {b : Blk} (h : M[i]? = some b) : (M ++ X)[i]? = some b := by
  rw [List.getElem?_append_left (List.getElem?_eq_some_iff.1 h).1]; exact h

set_option maxRecDepth 10000 in
set_option maxHeartbeats 4000000 in
theorem law_headers12 (s : Sq) (c b : Bool) (t : Int) (H : Heap) (hs : SqOk s) (ht : i64r t) :
    CallOk Tryz.prog 3 [.agg (sqc s), .agg [.bool c, .bool b, .int .i64 t]] H (.bool true) H := by
  have hcl := sqc_cell' s
  have l135 : (sqc s).length = 135 := sqc_len _ ⟨hs.ia, hs.ie⟩
  have t135 : List.take 135 (sqc s) = sqc s := List.take_of_length_le (by omega)
  have d135 : List.drop 135 (sqc s) = [] := List.drop_of_length_le (by omega)
  have zz1 : (sqc zSq).length = 135 := sqc_len _ ⟨z64_len, z64_len⟩
  have zz3 : List.drop 135 (sqc zSq) = [] := List.drop_of_length_le (by omega)
  have p1 := fun K => puts_ok s K hs
  have p2 := fun K => puts_ref s K hs
  have g1 := fun K => putg_ok c b t K ht
  have g2 := fun K => putg_ref c b t K ht
  have su := fun K => sameunit_ok (putS s).1 (putS s).1 (putS s).2.1 (putS s).2.1 false false K
  have sg := fun K => sameunit_ok (putG c b t).1 (putG c b t).1 (putG c b t).2.1 (putG c b t).2.1 false false K
  simp only [beq_self_eq_true, Bool.and_self] at su sg
  have ne := neSq s ⟨hs.ia, hs.ie⟩
  have pe := putS_e s
  refine CallOk.body (F0 := [(0, .agg (sqc s)), (1, .agg [.bool c, .bool b, .int .i64 t])]) Tryz.func3 rfl Tryz.ntmps3 Tryz.results3 rfl (by kernel_rfl) rfl ?_
  (repeat refine PW.seq ?_); refine PW.rg rfl fun K hK => ?_; simp (maxSteps := 3000000) (disch := omega) only [go_sem, ↓reduceIte, reduceCtorEq, pappend, plen, hcl]; refine hK _ _ ?_; clear hK K
  (repeat refine PW.seq ?_); refine PW.rg rfl fun K hK => ?_; simp (maxSteps := 3000000) (disch := omega) only [go_sem, ↓reduceIte, reduceCtorEq, pappend, plen, l135, t135]; refine VCx.call (p1 _) rfl ?_; simp (maxSteps := 3000000) (disch := omega) only [go_sem, ↓reduceIte, reduceCtorEq, pappend, plen, uv]; refine hK _ _ ?_; clear hK K
  (repeat refine PW.seq ?_); refine PW.rg rfl fun K hK => ?_; simp (maxSteps := 3000000) (disch := omega) only [go_sem, ↓reduceIte, reduceCtorEq, pappend, plen, l135, t135]; refine VCx.call (p2 _) rfl ?_; simp (maxSteps := 3000000) (disch := omega) only [go_sem, ↓reduceIte, reduceCtorEq, pappend, plen, uv]; refine hK _ _ ?_; clear hK K
  (repeat refine PW.seq ?_); refine PW.rg rfl fun K hK => ?_; simp (maxSteps := 3000000) (disch := omega) only [go_sem, ↓reduceIte, reduceCtorEq, pappend, plen, bne_self_eq_false]; refine VCx.call (su _) rfl ?_; simp (maxSteps := 3000000) (disch := omega) only [go_sem, ↓reduceIte, reduceCtorEq, pappend, plen]; refine hK _ _ ?_; clear hK K
  (repeat refine PW.seq ?_); refine PW.cond (t := _) rfl (fun h => ?_) (fun h => ?_)
  · cases h
  refine PW.skip ?_
  suffices tail : ∀ K : Heap, PW Tryz.prog _ _ [(3, .ptr (H.length + 1) 0 0), (5, .ptr (H.length + 2) 0 0), (7, .ptr (H.length + 3) 0 0)] (H ++ (⟨26, 0, sqc s⟩ :: ⟨28, 0, [.bool c, .bool b, .int .i64 t]⟩ :: ⟨31, 0, [.int .i64 (putS s).1, .slice (bs (putS s).2.1) (putS s).2.1.length false]⟩ :: ⟨31, 0, [.int .i64 (putS s).1, .slice (bs (putS s).2.1) (putS s).2.1.length false]⟩ :: K)) _ by
    cases hv : vseq s with
    | false =>
      rw [hv] at pe
      (repeat refine PW.seq ?_); refine PW.rg rfl fun K hK => ?_; simp (maxSteps := 3000000) (disch := omega) only [go_sem, ↓reduceIte, reduceCtorEq, pappend, plen, pe]; refine hK _ _ ?_; clear hK K
      (repeat refine PW.seq ?_); refine PW.cond (t := _) rfl (fun h => ?_) (fun h => ?_)
      · cases h
      refine PW.skip ?_
      exact PW.at [3, 5, 7] (tail []) rfl rfl
    | true =>
      rw [hv] at pe
      have tk := fun K => takeS_ok (putS s).1 (putS s).2.1 false K (by unfold putS; rw [if_pos hv]; show (pk (sbits s ++ [true])).length ≤ _; rw [pk_len]; have h1 := mxb_len s.ia dIn; have h2 := mxb_len s.ie dIt; simp [sbits, vbits_len]; omega)
      have te : takeS true (putS s).1 (putS s).2.1 = (s, 0) := by
        unfold putS
        rw [if_pos hv]
        exact takeS_put hs hv
      rw [te] at tk
      unfold rvTS at tk
      (repeat refine PW.seq ?_); refine PW.rg rfl fun K hK => ?_; simp (maxSteps := 3000000) (disch := omega) only [go_sem, ↓reduceIte, reduceCtorEq, pappend, plen, pe]; refine hK _ _ ?_; clear hK K
      (repeat refine PW.seq ?_); refine PW.cond (t := _) rfl (fun h => ?_) (fun h => ?_)
      rotate_left
      · cases h
      (repeat refine PW.seq ?_); refine PW.rg rfl fun K hK => ?_; simp (maxSteps := 3000000) (disch := omega) only [go_sem, ↓reduceIte, reduceCtorEq, pappend, plen]; refine VCx.call (tk _) rfl ?_; simp (maxSteps := 3000000) (disch := omega) only [go_sem, ↓reduceIte, reduceCtorEq, pappend, plen, ↓zcSq, l135, zz1, zz3, hcl, List.append_nil]; refine hK _ _ ?_; clear hK K
      (repeat refine PW.seq ?_); refine PW.rg rfl fun K hK => ?_; simp (maxSteps := 3000000) (disch := omega) only [go_sem, ↓reduceIte, reduceCtorEq, pappend, plen, l135, t135, ↓ne]; refine hK _ _ ?_; clear hK K
      (repeat refine PW.seq ?_); refine PW.cond (t := _) rfl (fun h => ?_) (fun h => ?_)
      · cases h
      refine PW.skip ?_
      exact PW.at [3, 5, 7] (tail [_]) rfl rfl
  intro K
  have tailg : (putG c b t).2.2 = 0 → 0 ≤ t ∧ t < 16777216 := fun h => by
    unfold putG at h
    split at h
    · assumption
    · cases h
  (repeat refine PW.seq ?_); refine PW.rg rfl fun K hK => ?_; simp (maxSteps := 3000000) (disch := omega) only [go_sem, ↓reduceIte, reduceCtorEq, pappend, plen]; refine VCx.call (g1 _) rfl ?_; simp (maxSteps := 3000000) (disch := omega) only [go_sem, ↓reduceIte, reduceCtorEq, pappend, plen, uv]; refine hK _ _ ?_; clear hK K
  (repeat refine PW.seq ?_); refine PW.rg rfl fun K hK => ?_; simp (maxSteps := 3000000) (disch := omega) only [go_sem, ↓reduceIte, reduceCtorEq, pappend, plen]; refine VCx.call (g2 _) rfl ?_; simp (maxSteps := 3000000) (disch := omega) only [go_sem, ↓reduceIte, reduceCtorEq, pappend, plen, uv]; refine hK _ _ ?_; clear hK K
  (repeat refine PW.seq ?_); refine PW.rg rfl fun K hK => ?_; simp (maxSteps := 3000000) (disch := omega) only [go_sem, ↓reduceIte, reduceCtorEq, pappend, plen, bne_self_eq_false]; refine VCx.call (sg _) rfl ?_; simp (maxSteps := 3000000) (disch := omega) only [go_sem, ↓reduceIte, reduceCtorEq, pappend, plen]; refine hK _ _ ?_; clear hK K
  (repeat refine PW.seq ?_); refine PW.cond (t := _) rfl (fun h => ?_) (fun h => ?_)
  · cases h
  refine PW.skip ?_
  by_cases hg : (putG c b t).2.2 = 0
  · have hb : ((putG c b t).2.2 == 0) = true := by simp [hg]
    have hr := tailg hg
    have tk := fun K => takeG_ok (putG c b t).1 (putG c b t).2.1 false K (by unfold putG; rw [if_pos hr]; show (pk (gbits c b t ++ [true])).length ≤ _; rw [pk_len]; simp [gbits, vbits_len])
    have te : takeG (putG c b t).1 (putG c b t).2.1 = (c, b, t, 0) := by
      unfold putG
      rw [if_pos hr]
      exact takeG_put hr
    rw [te] at tk
    unfold rvTG at tk
    refine PW.keep [3, 5, 6] ?_
    obtain ⟨M, hM⟩ : ∃ M, M = H ++ (⟨26, 0, sqc s⟩ :: ⟨28, 0, [.bool c, .bool b, .int .i64 t]⟩ :: ⟨31, 0, [.int .i64 (putG c b t).1, .slice (bs (putG c b t).2.1) (putG c b t).2.1.length false]⟩ :: ⟨31, 0, [.int .i64 (putG c b t).1, .slice (bs (putG c b t).2.1) (putG c b t).2.1.length false]⟩ :: K) := ⟨_, rfl⟩
    rw [← hM]
    have m1 : M[H.length + 1]? = some ⟨28, 0, [.bool c, .bool b, .int .i64 t]⟩ := by rw [hM]; exact hp1 _ _ _ _
    have m2 : M[H.length + 2]? = some ⟨31, 0, [.int .i64 (putG c b t).1, .slice (bs (putG c b t).2.1) (putG c b t).2.1.length false]⟩ := by rw [hM]; exact hp2 _ _ _ _ _
    have m1' := fun X => get_ext' (X := X) m1
    (repeat refine PW.seq ?_); refine PW.rg rfl fun K hK => ?_; simp (maxSteps := 3000000) (disch := omega) only [go_sem, ↓reduceIte, reduceCtorEq, pappend, plen, hb]; refine hK _ _ ?_; clear hK K
    (repeat refine PW.seq ?_); refine PW.cond (t := _) rfl (fun h => ?_) (fun h => ?_)
    rotate_left
    · cases h
    (repeat refine PW.seq ?_); refine PW.rg rfl fun K hK => ?_; simp (maxSteps := 3000000) (disch := omega) only [go_sem, ↓reduceIte, reduceCtorEq, pappend, plen, m2]; refine VCx.call (tk _) rfl ?_; simp (maxSteps := 3000000) (disch := omega) only [go_sem, ↓reduceIte, reduceCtorEq, pappend, plen]; refine hK _ _ ?_; clear hK K
    (repeat refine PW.seq ?_); refine PW.rg rfl fun K hK => ?_; simp (maxSteps := 3000000) (disch := omega) only [go_sem, ↓reduceIte, reduceCtorEq, pappend, plen, m1', ↓neGr]; refine hK _ _ ?_; clear hK K
    (repeat refine PW.seq ?_); refine PW.cond (t := _) rfl (fun h => ?_) (fun h => ?_)
    · cases h
    refine PW.skip ?_
    (repeat refine PW.seq ?_); refine PW.rg rfl fun K hK => ?_; simp (maxSteps := 3000000) (disch := omega) only [go_sem, ↓reduceIte, reduceCtorEq, pappend, plen]; refine VCx.call (awake12 _) rfl ?_; simp (maxSteps := 3000000) (disch := omega) only [go_sem, ↓reduceIte, reduceCtorEq, pappend, plen]; refine hK _ _ ?_; clear hK K
    refine PW.ret ⟨.bool true, by simp (maxSteps := 3000000) (disch := omega) only [go_sem, ↓reduceIte, reduceCtorEq, pappend, plen, presults, presult, List.mapM_cons, List.mapM_nil, Option.pure_def, Option.bind_eq_bind, Option.bind_some, Array.toList], ?_⟩
    rw [hM, List.append_assoc]
    exact Fin.base (.id (.bool _))
  · have hb : ((putG c b t).2.2 == 0) = false := by simp [hg]
    (repeat refine PW.seq ?_); refine PW.rg rfl fun K hK => ?_; simp (maxSteps := 3000000) (disch := omega) only [go_sem, ↓reduceIte, reduceCtorEq, pappend, plen, hb]; refine hK _ _ ?_; clear hK K
    (repeat refine PW.seq ?_); refine PW.cond (t := _) rfl (fun h => ?_) (fun h => ?_)
    · cases h
    refine PW.skip ?_
    (repeat refine PW.seq ?_); refine PW.rg rfl fun K hK => ?_; simp (maxSteps := 3000000) (disch := omega) only [go_sem, ↓reduceIte, reduceCtorEq, pappend, plen]; refine VCx.call (awake12 _) rfl ?_; simp (maxSteps := 3000000) (disch := omega) only [go_sem, ↓reduceIte, reduceCtorEq, pappend, plen]; refine hK _ _ ?_; clear hK K
    refine PW.ret ⟨.bool true, by simp (maxSteps := 3000000) (disch := omega) only [go_sem, ↓reduceIte, reduceCtorEq, pappend, plen, presults, presult, List.mapM_cons, List.mapM_nil, Option.pure_def, Option.bind_eq_bind, Option.bind_some, Array.toList], ?_⟩
    exact Fin.base (.id (.bool _))

set_option maxRecDepth 10000 in
set_option maxHeartbeats 4000000 in
theorem law_reads12 (t : Int) (q : List UInt8) (f : Bool) (H : Heap) : CallOk Tryz.prog 4 [.agg [.int .i64 t, .slice (bs q) q.length f]] H (.bool true) H := by
  refine CallOk.body (F0 := [(0, .agg [.int .i64 t, .slice (bs q) q.length f])]) Tryz.func4 rfl Tryz.ntmps4 Tryz.results4 rfl (by kernel_rfl) rfl ?_
  (repeat refine PW.seq ?_); refine PW.rg rfl fun K hK => ?_; simp (maxSteps := 3000000) (disch := omega) only [go_sem, ↓reduceIte, reduceCtorEq, pappend, plen]; refine hK _ _ ?_; clear hK K
  (repeat refine PW.seq ?_); refine PW.rg rfl fun K hK => ?_; simp (maxSteps := 3000000) (disch := omega) only [go_sem, ↓reduceIte, reduceCtorEq, pappend, plen]; refine hK _ _ ?_; clear hK K
  by_cases hl : q.length ≤ 400
  rotate_left
  · have d1 : decide ((400 : Int) < (q.length : Int)) = true := decide_eq_true (by omega)
    (repeat refine PW.seq ?_); refine PW.cond (t := _) rfl (fun h => ?_) (fun h => ?_)
    rotate_left
    · rw [d1] at h; cases h
    (repeat refine PW.seq ?_); refine PW.rg rfl fun K hK => ?_; simp (maxSteps := 3000000) (disch := omega) only [go_sem, ↓reduceIte, reduceCtorEq, pappend, plen]; refine hK _ _ ?_; clear hK K
    (refine PW.ret ⟨_, rfl, ?_⟩; first | refine .inl ⟨?_, rfl⟩ | refine Fin.base (.id' ?_ (.bool _)) | refine Fin.base (.id' ?_ (.int _ _)))
    rfl
  have d1 : decide ((400 : Int) < (q.length : Int)) = false := decide_eq_false (by omega)
  (repeat refine PW.seq ?_); refine PW.cond (t := _) rfl (fun h => ?_) (fun h => ?_)
  · rw [d1] at h; cases h
  refine PW.skip ?_
  have a1 := fun K => takeS_ok t q f K (by omega)
  have a2 := fun K => takeS_ref t q f K (by omega)
  have b1 := fun K => takeG_ok t q f K (by omega)
  have b2 := fun K => takeG_ref t q f K (by omega)
  simp only [takeS_eq] at a2
  have hso : SqOk (takeS true t q).1 := takeS_ok2
  unfold rvTS at a1 a2
  unfold rvTG at b1 b2
  generalize (takeS true t q).1 = s at *
  generalize (takeS true t q).2 = e at *
  generalize (takeG t q).1 = g1 at *
  generalize (takeG t q).2.1 = g2 at *
  generalize (takeG t q).2.2.1 = g3 at *
  generalize (takeG t q).2.2.2 = g4 at *
  have hcl := sqc_cell' s
  have l135 : (sqc s).length = 135 := sqc_len _ ⟨hso.ia, hso.ie⟩
  have t135 : List.take 135 (sqc s) = sqc s := List.take_of_length_le (by omega)
  have zz1 : (sqc zSq).length = 135 := sqc_len _ ⟨z64_len, z64_len⟩
  have zz3 : List.drop 135 (sqc zSq) = [] := List.drop_of_length_le (by omega)
  have ne := neSq s ⟨hso.ia, hso.ie⟩
  have eg : peqG Tryz.prog .eql 28 (.agg [.bool g1, .bool g2, .int .i64 g3]) (.agg [.bool g1, .bool g2, .int .i64 g3]) = some (.bool true) := by
    rw [eqGr]; simp
  (repeat refine PW.seq ?_); refine PW.rg rfl fun K hK => ?_; simp (maxSteps := 3000000) (disch := omega) only [go_sem, ↓reduceIte, reduceCtorEq, pappend, plen]; refine VCx.call (a1 _) rfl ?_; simp (maxSteps := 3000000) (disch := omega) only [go_sem, ↓reduceIte, reduceCtorEq, pappend, plen, ↓zcSq, l135, zz1, zz3, hcl, List.append_nil]; refine hK _ _ ?_; clear hK K
  (repeat refine PW.seq ?_); refine PW.rg rfl fun K hK => ?_; simp (maxSteps := 3000000) (disch := omega) only [go_sem, ↓reduceIte, reduceCtorEq, pappend, plen]; refine VCx.call (a2 _) rfl ?_; simp (maxSteps := 3000000) (disch := omega) only [go_sem, ↓reduceIte, reduceCtorEq, pappend, plen, ↓zcSq, l135, zz1, zz3, hcl, List.append_nil]; refine hK _ _ ?_; clear hK K
  (repeat refine PW.seq ?_); refine PW.rg rfl fun K hK => ?_; simp (maxSteps := 3000000) (disch := omega) only [go_sem, ↓reduceIte, reduceCtorEq, pappend, plen, bne_self_eq_false, l135, t135, ↓ne]; refine hK _ _ ?_; clear hK K
  (repeat refine PW.seq ?_); refine PW.cond (t := _) rfl (fun h => ?_) (fun h => ?_)
  · cases h
  refine PW.skip ?_
  (repeat refine PW.seq ?_); refine PW.rg rfl fun K hK => ?_; simp (maxSteps := 3000000) (disch := omega) only [go_sem, ↓reduceIte, reduceCtorEq, pappend, plen]; refine VCx.call (b1 _) rfl ?_; simp (maxSteps := 3000000) (disch := omega) only [go_sem, ↓reduceIte, reduceCtorEq, pappend, plen]; refine hK _ _ ?_; clear hK K
  (repeat refine PW.seq ?_); refine PW.rg rfl fun K hK => ?_; simp (maxSteps := 3000000) (disch := omega) only [go_sem, ↓reduceIte, reduceCtorEq, pappend, plen]; refine VCx.call (b2 _) rfl ?_; simp (maxSteps := 3000000) (disch := omega) only [go_sem, ↓reduceIte, reduceCtorEq, pappend, plen]; refine hK _ _ ?_; clear hK K
  (repeat refine PW.seq ?_); refine PW.rg rfl fun K hK => ?_; simp (maxSteps := 3000000) (disch := omega) only [go_sem, ↓reduceIte, reduceCtorEq, pappend, plen]; refine VCx.call (awake12 _) rfl ?_; simp (maxSteps := 3000000) (disch := omega) only [go_sem, ↓reduceIte, reduceCtorEq, pappend, plen, beq_self_eq_true, ↓eg]; refine hK _ _ ?_; clear hK K
  refine PW.ret ⟨.bool true, by simp (maxSteps := 3000000) (disch := omega) only [go_sem, ↓reduceIte, reduceCtorEq, pappend, plen, presults, presult, List.mapM_cons, List.mapM_nil, Option.pure_def, Option.bind_eq_bind, Option.bind_some, Array.toList], ?_⟩
  exact Fin.base (.id (.bool _))

end Go.Proofs.YtnnkohejhnjflaaGreatDoor.Sc

namespace Go.Proofs.YtnnkohejhnjflaaGreatDoor.Sc
set_option linter.all false
set_option linter.unusedVariables false
set_option linter.unusedSimpArgs false
open Pm Ty S3 Go.RowKit

theorem itL_sub (l : List It) (h : ∀ x ∈ l, SqOk x.s) (k r n : Nat) (hk : k < l.length) (hr : r + n ≤ 148) : List.take n (List.drop (k * 148 + r) (itL l)) = List.take n (List.drop r (itc l[k])) := by
  rw [← itL_at l h k hk, List.drop_take, List.take_take, Nat.min_eq_left (by omega), List.drop_drop]
def padB (x : It) : Bool := !(decide (5000 < x.pad) && decide (x.pad ≤ 1048576))
def ltI (x : It) : Bool := (padB x && (decide (x.U.length ≤ 4) && decide (x.us.length ≤ 8))) && ((x.U.all fun u => decide (u.length ≤ 400)) && (x.us.all fun u => decide (u.2.length ≤ 3000)))
def ltB (l : List It) : Bool := decide (l.length ≤ 60) && l.all ltI
theorem all_dropL {α : Type} (f : α → Bool) (l : List α) (j : Nat) (h : j < l.length) : (l.drop j).all f = (f l[j] && (l.drop (j + 1)).all f) := by
  rw [List.drop_eq_getElem_cons h]; rfl

set_option maxHeartbeats 8000000 in
set_option maxRecDepth 100000 in
theorem light12 (l : List It) (f : Bool) (H : Heap) (hs : ∀ x ∈ l, SqOk x.s) : CallOk Tryz.prog 22 [.slice (itL l) l.length f] H (.bool (ltB l)) H := by
  have ln := itL_len l hs
  have fin : ∀ (b : Bool) (K : Heap), Fin H (.bool b) H (.bool b) (H ++ K) := fun b K => Fin.base (.id (.bool _))
  have fin0 : ∀ (b : Bool), Fin H (.bool b) H (.bool b) H := fun b => Fin.now
  unfold ltB
  refine CallOk.body (F0 := [(0, .slice (itL l) l.length f)]) Tryz.func22 rfl Tryz.ntmps22 Tryz.results22 rfl (by kernel_rfl) rfl ?_
  (repeat refine PW.seq ?_); refine PW.rg rfl fun K hK => ?_; simp (maxSteps := 3000000) (disch := omega) only [go_sem, ↓reduceIte, reduceCtorEq, pappend, plen]; refine hK _ _ ?_; clear hK K
  (repeat refine PW.seq ?_); refine PW.rg rfl fun K hK => ?_; simp (maxSteps := 3000000) (disch := omega) only [go_sem, ↓reduceIte, reduceCtorEq, pappend, plen]; refine hK _ _ ?_; clear hK K
  by_cases h60 : l.length ≤ 60
  rotate_left
  · have d1 : decide ((60 : Int) < (l.length : Int)) = true := decide_eq_true (by omega)
    (repeat refine PW.seq ?_); refine PW.cond (t := _) rfl (fun h => ?_) (fun h => ?_)
    rotate_left
    · rw [d1] at h; cases h
    rw [decide_eq_false h60, Bool.false_and]
    (repeat refine PW.seq ?_); refine PW.rg rfl fun K hK => ?_; simp (maxSteps := 3000000) (disch := omega) only [go_sem, ↓reduceIte, reduceCtorEq, pappend, plen]; refine hK _ _ ?_; clear hK K
    refine PW.ret ⟨.bool false, by simp (maxSteps := 3000000) (disch := omega) only [go_sem, ↓reduceIte, reduceCtorEq, pappend, plen, presults, presult, List.mapM_cons, List.mapM_nil, Option.pure_def, Option.bind_eq_bind, Option.bind_some, Array.toList], ?_⟩
    exact fin0 _
  have d1 : decide ((60 : Int) < (l.length : Int)) = false := decide_eq_false (by omega)
  (repeat refine PW.seq ?_); refine PW.cond (t := _) rfl (fun h => ?_) (fun h => ?_)
  · rw [d1] at h; cases h
  rw [decide_eq_true h60, Bool.true_and]
  refine PW.skip ?_
  (repeat refine PW.seq ?_); refine PW.rg rfl fun K hK => ?_; simp (maxSteps := 3000000) (disch := omega) only [go_sem, ↓reduceIte, reduceCtorEq, pappend, plen]; refine hK _ _ ?_; clear hK K
  (repeat refine PW.seq ?_); refine PW.block (PW.loop ?_)
  suffices hl1 : ∀ j : Nat, j ≤ l.length → (l.drop j).all ltI = l.all ltI → PL Tryz.prog _ _ [(0, .slice (itL l) l.length f), (3, .int .i64 (j : Int))] H _ by
    exact PL.at [0, 3] (hl1 0 (by omega) rfl) rfl rfl
  intro j hj hf
  induction hd : l.length - j using Nat.strongRecOn generalizing j with
  | _ d ih =>
    refine PL.round ?_; (repeat refine PW.seq ?_); refine PW.rg rfl fun K hK => ?_; simp (maxSteps := 3000000) (disch := omega) only [go_sem, ↓reduceIte, reduceCtorEq, pappend, plen]; refine hK _ _ ?_; clear hK K
    (repeat refine PW.seq ?_); refine PW.cond (t := _) rfl (fun h => ?_) (fun h => ?_)
    · have hjl : j < l.length := by have := of_decide_eq_true h; omega
      have ip := itL_get l hs j 147 hjl (by omega)
      have hc := itL_sub l hs j 139 8 hjl (by omega)
      have hx := hs l[j] (List.getElem_mem hjl)
      rw [itc_pad _ hx] at ip
      rw [itc_c _ hx] at hc
      rw [all_dropL ltI l j hjl] at hf
      have hnext := fun hf => ih (l.length - (j + 1)) (by omega) (j + 1) (by omega) hf rfl
      generalize l[j] = x at *
      refine PW.skip ?_; (repeat refine PW.seq ?_); refine PW.block ?_
      have c1 := cdc_cell x.p x.U x.us
      have c2 := cdc_len x.p x.U x.us
      have c6 : (cdc x.p x.U x.us)[6]? = some (usr x.U) := rfl
      have c7 := cdc_7 x.p x.U x.us
      have c8 : List.drop 8 (cdc x.p x.U x.us) = [] := rfl
      have ul := usr_l x.U
      have ql := uq_len x.us
      (repeat refine PW.seq ?_); refine PW.rg rfl fun K hK => ?_; simp (maxSteps := 3000000) (disch := omega) only [go_sem, ↓reduceIte, reduceCtorEq, pappend, plen, ln, hc, c1, c2, c8, List.append_nil]; refine hK _ _ ?_; clear hK K
      suffices hrest : PW Tryz.prog _ _ [(0, .slice (itL l) l.length f), (3, .int .i64 (j : Int)), (4, .ptr H.length 0 0), (46, .bool (!(padB x && (decide (x.U.length ≤ 4) && decide (x.us.length ≤ 8)))))] (H ++ [⟨62, 0, cdc x.p x.U x.us⟩]) _ by
        unfold padB at hrest
        by_cases p1 : 5000 < x.pad
        · have e1 : decide (5000 < x.pad) = true := decide_eq_true p1
          by_cases p2 : x.pad ≤ 1048576
          · have e2 : decide (x.pad ≤ 1048576) = true := decide_eq_true p2
            rw [e1, e2] at hrest
            (repeat refine PW.seq ?_); refine PW.rg rfl fun K hK => ?_; simp (maxSteps := 3000000) (disch := omega) only [go_sem, ↓reduceIte, reduceCtorEq, pappend, plen, ln, ip, e1, e2]; refine hK _ _ ?_; clear hK K
            exact PW.at [0, 3, 4, 46] hrest rfl rfl
          · have e2 : decide (x.pad ≤ 1048576) = false := decide_eq_false p2
            rw [e1, e2] at hrest
            by_cases p3 : x.U.length ≤ 4
            · have e3 : decide ((4 : Int) < (x.U.length : Int)) = false := decide_eq_false (by omega)
              have e4 : decide ((8 : Int) < (x.us.length : Int)) = !decide (x.us.length ≤ 8) := by rw [Bool.eq_iff_iff]; simp; omega
              rw [decide_eq_true p3] at hrest
              (repeat refine PW.seq ?_); refine PW.rg rfl fun K hK => ?_; simp (maxSteps := 3000000) (disch := omega) only [go_sem, ↓reduceIte, reduceCtorEq, pappend, plen, ln, ip, e1, e2, c2, c6, usr, c7, e3, e4]; refine hK _ _ ?_; clear hK K
              exact PW.at [0, 3, 4, 46] hrest (by simp [kp, slot, Nat.beq]) rfl
            · have e3 : decide ((4 : Int) < (x.U.length : Int)) = true := decide_eq_true (by omega)
              rw [decide_eq_false p3] at hrest
              (repeat refine PW.seq ?_); refine PW.rg rfl fun K hK => ?_; simp (maxSteps := 3000000) (disch := omega) only [go_sem, ↓reduceIte, reduceCtorEq, pappend, plen, ln, ip, e1, e2, c2, c6, usr, c7, e3]; refine hK _ _ ?_; clear hK K
              exact PW.at [0, 3, 4, 46] hrest (by simp [kp, slot, Nat.beq]) rfl
        · have e1 : decide (5000 < x.pad) = false := decide_eq_false p1
          rw [e1] at hrest
          by_cases p3 : x.U.length ≤ 4
          · have e3 : decide ((4 : Int) < (x.U.length : Int)) = false := decide_eq_false (by omega)
            have e4 : decide ((8 : Int) < (x.us.length : Int)) = !decide (x.us.length ≤ 8) := by rw [Bool.eq_iff_iff]; simp; omega
            rw [decide_eq_true p3] at hrest
            (repeat refine PW.seq ?_); refine PW.rg rfl fun K hK => ?_; simp (maxSteps := 3000000) (disch := omega) only [go_sem, ↓reduceIte, reduceCtorEq, pappend, plen, ln, ip, e1, c2, c6, usr, c7, e3, e4]; refine hK _ _ ?_; clear hK K
            exact PW.at [0, 3, 4, 46] hrest (by simp [kp, slot, Nat.beq]) rfl
          · have e3 : decide ((4 : Int) < (x.U.length : Int)) = true := decide_eq_true (by omega)
            rw [decide_eq_false p3] at hrest
            (repeat refine PW.seq ?_); refine PW.rg rfl fun K hK => ?_; simp (maxSteps := 3000000) (disch := omega) only [go_sem, ↓reduceIte, reduceCtorEq, pappend, plen, ln, ip, e1, c2, c6, usr, c7, e3]; refine hK _ _ ?_; clear hK K
            exact PW.at [0, 3, 4, 46] hrest (by simp [kp, slot, Nat.beq]) rfl
      unfold ltI at hf
      cases hA : (padB x && (decide (x.U.length ≤ 4) && decide (x.us.length ≤ 8))) with
      | false =>
        rw [hA, Bool.false_and, Bool.false_and] at hf
        (repeat refine PW.seq ?_); refine PW.cond (t := _) rfl (fun h => ?_) (fun h => ?_)
        rotate_left
        · cases h
        (repeat refine PW.seq ?_); refine PW.rg rfl fun K hK => ?_; simp (maxSteps := 3000000) (disch := omega) only [go_sem, ↓reduceIte, reduceCtorEq, pappend, plen]; refine hK _ _ ?_; clear hK K
        refine PW.ret ⟨.bool false, by simp (maxSteps := 3000000) (disch := omega) only [go_sem, ↓reduceIte, reduceCtorEq, pappend, plen, presults, presult, List.mapM_cons, List.mapM_nil, Option.pure_def, Option.bind_eq_bind, Option.bind_some, Array.toList], ?_⟩
        rw [show (l.all ltI) = false from hf.symm]
        exact fin _ _
      | true =>
        rw [hA, Bool.true_and] at hf
        simp only [Bool.and_eq_true, decide_eq_true_eq] at hA
        obtain ⟨_, hU4, hu8⟩ := hA
        (repeat refine PW.seq ?_); refine PW.cond (t := _) rfl (fun h => ?_) (fun h => ?_)
        · cases h
        refine PW.skip ?_
        (repeat refine PW.seq ?_); refine PW.rg rfl fun K hK => ?_; simp (maxSteps := 3000000) (disch := omega) only [go_sem, ↓reduceIte, reduceCtorEq, pappend, plen]; refine hK _ _ ?_; clear hK K
        (repeat refine PW.seq ?_); refine PW.block (PW.loop ?_)
        suffices hl2 : ∀ k : Nat, k ≤ x.U.length → ((((x.U.drop k).all fun u => decide (u.length ≤ 400)) && (x.us.all fun u => decide (u.2.length ≤ 3000))) && (l.drop (j + 1)).all ltI) = l.all ltI → PL Tryz.prog _ _ [(0, .slice (itL l) l.length f), (3, .int .i64 (j : Int)), (4, .ptr H.length 0 0), (5, .int .i64 (k : Int))] (H ++ [⟨62, 0, cdc x.p x.U x.us⟩]) _ by
          exact PL.at [0, 3, 4, 5] (hl2 0 (by omega) hf) rfl rfl
        clear hf
        intro k hk hf
        induction hd2 : x.U.length - k using Nat.strongRecOn generalizing k with
        | _ d2 ih2 =>
          refine PL.round ?_; (repeat refine PW.seq ?_); refine PW.rg rfl fun K hK => ?_; simp (maxSteps := 3000000) (disch := omega) only [go_sem, ↓reduceIte, reduceCtorEq, pappend, plen, c2, c6, usr]; refine hK _ _ ?_; clear hK K
          (repeat refine PW.seq ?_); refine PW.cond (t := _) rfl (fun h => ?_) (fun h => ?_)
          · have hkU : k < x.U.length := by have := of_decide_eq_true h; omega
            have ua := usr_at x.U k hkU
            rw [all_dropL _ x.U k hkU] at hf
            have hn2 := fun hf => ih2 (x.U.length - (k + 1)) (by omega) (k + 1) (by omega) hf rfl
            generalize x.U[k] = u at *
            refine PW.skip ?_; (repeat refine PW.seq ?_); refine PW.block ?_
            by_cases h4 : u.length ≤ 400
            · have d4 : decide ((400 : Int) < (u.length : Int)) = false := decide_eq_false (by omega)
              rw [decide_eq_true h4, Bool.true_and] at hf
              (repeat refine PW.seq ?_); refine PW.rg rfl fun K hK => ?_; simp (maxSteps := 3000000) (disch := omega) only [go_sem, ↓reduceIte, reduceCtorEq, pappend, plen, c2, c6, usr, ua, ul, d4]; refine hK _ _ ?_; clear hK K
              (repeat refine PW.seq ?_); refine PW.cond (t := _) rfl (fun h => ?_) (fun h => ?_)
              · cases h
              refine PW.skip ?_
              (repeat refine PW.seq ?_); refine PW.rg rfl fun K hK => ?_; simp (maxSteps := 3000000) (disch := omega) only [go_sem, ↓reduceIte, reduceCtorEq, pappend, plen]; refine hK _ _ ?_; clear hK K
              exact PL.at [0, 3, 4, 5] (hn2 hf) rfl rfl
            · have d4 : decide ((400 : Int) < (u.length : Int)) = true := decide_eq_true (by omega)
              rw [decide_eq_false h4, Bool.false_and, Bool.false_and, Bool.false_and] at hf
              (repeat refine PW.seq ?_); refine PW.rg rfl fun K hK => ?_; simp (maxSteps := 3000000) (disch := omega) only [go_sem, ↓reduceIte, reduceCtorEq, pappend, plen, c2, c6, usr, ua, ul, d4]; refine hK _ _ ?_; clear hK K
              (repeat refine PW.seq ?_); refine PW.cond (t := _) rfl (fun h => ?_) (fun h => ?_)
              rotate_left
              · cases h
              (repeat refine PW.seq ?_); refine PW.rg rfl fun K hK => ?_; simp (maxSteps := 3000000) (disch := omega) only [go_sem, ↓reduceIte, reduceCtorEq, pappend, plen]; refine hK _ _ ?_; clear hK K
              refine PW.ret ⟨.bool false, by simp (maxSteps := 3000000) (disch := omega) only [go_sem, ↓reduceIte, reduceCtorEq, pappend, plen, presults, presult, List.mapM_cons, List.mapM_nil, Option.pure_def, Option.bind_eq_bind, Option.bind_some, Array.toList], ?_⟩
              rw [← hf]
              exact fin _ _
          · have hkU : k = x.U.length := by have := of_decide_eq_false h; omega
            rw [hkU, List.drop_length, List.all_nil, Bool.true_and] at hf
            refine PW.exit ?_
            clear ih2
            (repeat refine PW.seq ?_); refine PW.rg rfl fun K hK => ?_; simp (maxSteps := 3000000) (disch := omega) only [go_sem, ↓reduceIte, reduceCtorEq, pappend, plen]; refine hK _ _ ?_; clear hK K
            (repeat refine PW.seq ?_); refine PW.block (PW.loop ?_)
            suffices hl3 : ∀ k : Nat, k ≤ x.us.length → (((x.us.drop k).all fun u => decide (u.2.length ≤ 3000)) && (l.drop (j + 1)).all ltI) = l.all ltI → PL Tryz.prog _ _ [(0, .slice (itL l) l.length f), (3, .int .i64 (j : Int)), (4, .ptr H.length 0 0), (6, .int .i64 (k : Int))] (H ++ [⟨62, 0, cdc x.p x.U x.us⟩]) _ by
              exact PL.at [0, 3, 4, 6] (hl3 0 (by omega) hf) rfl rfl
            clear hf hkU hk h hd2
            intro k hk hf
            induction hd3 : x.us.length - k using Nat.strongRecOn generalizing k with
            | _ d3 ih3 =>
              refine PL.round ?_; (repeat refine PW.seq ?_); refine PW.rg rfl fun K hK => ?_; simp (maxSteps := 3000000) (disch := omega) only [go_sem, ↓reduceIte, reduceCtorEq, pappend, plen, c2, c7]; refine hK _ _ ?_; clear hK K
              (repeat refine PW.seq ?_); refine PW.cond (t := _) rfl (fun h => ?_) (fun h => ?_)
              · have hku : k < x.us.length := by have := of_decide_eq_true h; omega
                have u1 := uq_1 x.us k hku
                rw [all_dropL _ x.us k hku] at hf
                have hn3 := fun hf => ih3 (x.us.length - (k + 1)) (by omega) (k + 1) (by omega) hf rfl
                generalize x.us[k] = u at *
                refine PW.skip ?_; (repeat refine PW.seq ?_); refine PW.block ?_
                by_cases h4 : u.2.length ≤ 3000
                · have d4 : decide ((3000 : Int) < (u.2.length : Int)) = false := decide_eq_false (by omega)
                  rw [decide_eq_true h4, Bool.true_and] at hf
                  (repeat refine PW.seq ?_); refine PW.rg rfl fun K hK => ?_; simp (maxSteps := 3000000) (disch := omega) only [go_sem, ↓reduceIte, reduceCtorEq, pappend, plen, c2, c7, u1, ql, d4]; refine hK _ _ ?_; clear hK K
                  (repeat refine PW.seq ?_); refine PW.cond (t := _) rfl (fun h => ?_) (fun h => ?_)
                  · cases h
                  refine PW.skip ?_
                  (repeat refine PW.seq ?_); refine PW.rg rfl fun K hK => ?_; simp (maxSteps := 3000000) (disch := omega) only [go_sem, ↓reduceIte, reduceCtorEq, pappend, plen]; refine hK _ _ ?_; clear hK K
                  exact PL.at [0, 3, 4, 6] (hn3 hf) rfl rfl
                · have d4 : decide ((3000 : Int) < (u.2.length : Int)) = true := decide_eq_true (by omega)
                  rw [decide_eq_false h4, Bool.false_and, Bool.false_and] at hf
                  (repeat refine PW.seq ?_); refine PW.rg rfl fun K hK => ?_; simp (maxSteps := 3000000) (disch := omega) only [go_sem, ↓reduceIte, reduceCtorEq, pappend, plen, c2, c7, u1, ql, d4]; refine hK _ _ ?_; clear hK K
                  (repeat refine PW.seq ?_); refine PW.cond (t := _) rfl (fun h => ?_) (fun h => ?_)
                  rotate_left
                  · cases h
                  (repeat refine PW.seq ?_); refine PW.rg rfl fun K hK => ?_; simp (maxSteps := 3000000) (disch := omega) only [go_sem, ↓reduceIte, reduceCtorEq, pappend, plen]; refine hK _ _ ?_; clear hK K
                  refine PW.ret ⟨.bool false, by simp (maxSteps := 3000000) (disch := omega) only [go_sem, ↓reduceIte, reduceCtorEq, pappend, plen, presults, presult, List.mapM_cons, List.mapM_nil, Option.pure_def, Option.bind_eq_bind, Option.bind_some, Array.toList], ?_⟩
                  rw [← hf]
                  exact fin _ _
              · have hku : k = x.us.length := by have := of_decide_eq_false h; omega
                rw [hku, List.drop_length, List.all_nil, Bool.true_and] at hf
                refine PW.exit ?_
                (repeat refine PW.seq ?_); refine PW.rg rfl fun K hK => ?_; simp (maxSteps := 3000000) (disch := omega) only [go_sem, ↓reduceIte, reduceCtorEq, pappend, plen]; refine hK _ _ ?_; clear hK K
                refine PL.keep [0, 3] ?_
                refine PL.view (Vs.trim (F1 := [(0, .slice (itL l) l.length f), (3, .int .i64 ((j + 1 : Nat) : Int))]) (H1 := H) (fun h => h) (Nat.le_refl _) rfl ?_) (hnext hf)
                exact ⟨.id (sl_scoped (itL_sc _ _)), .id (.int _ _), trivial⟩
    · have hjl : j = l.length := by have := of_decide_eq_false h; omega
      subst hjl
      rw [List.drop_length] at hf
      rw [← hf]
      refine PW.exit ?_
      (repeat refine PW.seq ?_); refine PW.rg rfl fun K hK => ?_; simp (maxSteps := 3000000) (disch := omega) only [go_sem, ↓reduceIte, reduceCtorEq, pappend, plen]; refine hK _ _ ?_; clear hK K
      refine PW.ret ⟨.bool true, by simp (maxSteps := 3000000) (disch := omega) only [go_sem, ↓reduceIte, reduceCtorEq, pappend, plen, presults, presult, List.mapM_cons, List.mapM_nil, Option.pure_def, Option.bind_eq_bind, Option.bind_some, Array.toList], ?_⟩
      exact fin0 _

end Go.Proofs.YtnnkohejhnjflaaGreatDoor.Sc

namespace Go.Proofs.YtnnkohejhnjflaaGreatDoor.Sc
set_option linter.all false
set_option linter.unusedVariables false
set_option linter.unusedSimpArgs false
open Pm Ty S3 Go.RowKit

theorem lts_of {l : List It} (hok : ∀ x ∈ l, ItOk x) (h : ltB l = true) : Lts l ∧ l.length ≤ 60 := by
  unfold ltB at h
  rw [Bool.and_eq_true, decide_eq_true_eq] at h
  refine ⟨⟨by omega, fun x hx => ?_⟩, h.1⟩
  have := List.all_eq_true.1 h.2 x hx
  unfold ltI at this
  simp only [Bool.and_eq_true, decide_eq_true_eq] at this
  obtain ⟨⟨_, h1, h2⟩, _, h4⟩ := this
  exact ⟨hok x hx, by omega, by omega, fun u hu => by
    have := of_decide_eq_true (List.all_eq_true.1 h4 u hu)
    omega⟩
set_option maxHeartbeats 8000000 in
set_option maxRecDepth 100000 in
theorem law_formats12 (l : List It) (f : Bool) (H : Heap) (hok : ∀ x ∈ l, ItOk x) : CallOk Tryz.prog 6 [.slice (itL l) l.length f] H (.bool true) H := by
  have hs : ∀ x ∈ l, SqOk x.s := fun x hx => (hok x hx).s
  have ln := itL_len l hs
  have lo := fun K => light12 l f K hs
  refine CallOk.body (F0 := [(0, .slice (itL l) l.length f)]) Tryz.func6 rfl Tryz.ntmps6 Tryz.results6 rfl (by kernel_rfl) rfl ?_
  (repeat refine PW.seq ?_); refine PW.rg rfl fun K hK => ?_; simp (maxSteps := 3000000) (disch := omega) only [go_sem, ↓reduceIte, reduceCtorEq, pappend, plen]; refine hK _ _ ?_; clear hK K
  (repeat refine PW.seq ?_); refine PW.rg rfl fun K hK => ?_; simp (maxSteps := 3000000) (disch := omega) only [go_sem, ↓reduceIte, reduceCtorEq, pappend, plen]; refine VCx.call (lo _) rfl ?_; simp (maxSteps := 3000000) (disch := omega) only [go_sem, ↓reduceIte, reduceCtorEq, pappend, plen]; refine hK _ _ ?_; clear hK K
  cases hlt : ltB l with
  | false =>
    (repeat refine PW.seq ?_); refine PW.cond (t := _) rfl (fun h => ?_) (fun h => ?_)
    rotate_left
    · cases h
    (repeat refine PW.seq ?_); refine PW.rg rfl fun K hK => ?_; simp (maxSteps := 3000000) (disch := omega) only [go_sem, ↓reduceIte, reduceCtorEq, pappend, plen]; refine hK _ _ ?_; clear hK K
    (refine PW.ret ⟨_, rfl, ?_⟩; first | refine .inl ⟨?_, rfl⟩ | refine Fin.base (.id' ?_ (.bool _)) | refine Fin.base (.id' ?_ (.int _ _)))
    rfl
  | true =>
    obtain ⟨hL, h60⟩ := lts_of hok hlt
    (repeat refine PW.seq ?_); refine PW.cond (t := _) rfl (fun h => ?_) (fun h => ?_)
    · cases h
    refine PW.skip ?_
    (repeat refine PW.seq ?_); refine PW.rg rfl fun K hK => ?_; simp (maxSteps := 3000000) (disch := omega) only [go_sem, ↓reduceIte, reduceCtorEq, pappend, plen]; refine hK _ _ ?_; clear hK K
    (repeat refine PW.seq ?_); refine PW.block (PW.loop ?_)
    suffices hl1 : ∀ j : Nat, j ≤ l.length → PL Tryz.prog _ _ [(0, .slice (itL l) l.length f), (3, .int .i64 (j : Int))] H _ by
      exact PL.at [0, 3] (hl1 0 (by omega)) rfl rfl
    intro j hj
    induction hd : l.length - j using Nat.strongRecOn generalizing j with
    | _ d ih =>
      refine PL.round ?_; (repeat refine PW.seq ?_); refine PW.rg rfl fun K hK => ?_; simp (maxSteps := 3000000) (disch := omega) only [go_sem, ↓reduceIte, reduceCtorEq, pappend, plen]; refine hK _ _ ?_; clear hK K
      (repeat refine PW.seq ?_); refine PW.cond (t := _) rfl (fun h => ?_) (fun h => ?_)
      · have hjl : j < l.length := by have := of_decide_eq_true h; omega
        have ia := itL_at l hs j hjl
        have hx := hL.i l[j] (List.getElem_mem hjl)
        have hnext := ih (l.length - (j + 1)) (by omega) (j + 1) (by omega) rfl
        generalize l[j] = x at *
        have s1 := fun K => size_ok x K hx (by have := itB_len hx; omega)
        have s2 := fun K => size_ref x K hx
        refine PW.skip ?_; (repeat refine PW.seq ?_); refine PW.block ?_
        obtain ⟨a, b, hab⟩ : ∃ a b, szI x = .tup [.int .i64 a, .int .i64 b] := by unfold szI; split <;> exact ⟨_, _, rfl⟩
        rw [hab] at s1 s2
        (repeat refine PW.seq ?_); refine PW.rg rfl fun K hK => ?_; simp (maxSteps := 3000000) (disch := omega) only [go_sem, ↓reduceIte, reduceCtorEq, pappend, plen, ia, ln]; refine VCx.call (s1 _) rfl ?_; simp (maxSteps := 3000000) (disch := omega) only [go_sem, ↓reduceIte, reduceCtorEq, pappend, plen]; refine hK _ _ ?_; clear hK K
        (repeat refine PW.seq ?_); refine PW.rg rfl fun K hK => ?_; simp (maxSteps := 3000000) (disch := omega) only [go_sem, ↓reduceIte, reduceCtorEq, pappend, plen, ia, ln]; refine VCx.call (s2 _) rfl ?_; simp (maxSteps := 3000000) (disch := omega) only [go_sem, ↓reduceIte, reduceCtorEq, pappend, plen]; refine hK _ _ ?_; clear hK K
        (repeat refine PW.seq ?_); refine PW.rg rfl fun K hK => ?_; simp (maxSteps := 3000000) (disch := omega) only [go_sem, ↓reduceIte, reduceCtorEq, pappend, plen, bne_self_eq_false]; refine hK _ _ ?_; clear hK K
        (repeat refine PW.seq ?_); refine PW.cond (t := _) rfl (fun h => ?_) (fun h => ?_)
        · cases h
        refine PW.skip ?_
        (repeat refine PW.seq ?_); refine PW.rg rfl fun K hK => ?_; simp (maxSteps := 3000000) (disch := omega) only [go_sem, ↓reduceIte, reduceCtorEq, pappend, plen]; refine hK _ _ ?_; clear hK K
        exact PL.at [0, 3] hnext rfl rfl
      · refine PW.exit ?_
        have f1 := fun K => fmts_ok l f K hL
        have f2 := fun K => fmts_ref l f K hL
        unfold rvB at f1 f2
        generalize (fmS l).1 = b at *
        generalize (fmS l).2 = e at *
        have sb := fun K => same_ok b b false false K
        rw [show (b == b) = true by simp] at sb
        (repeat refine PW.seq ?_); refine PW.rg rfl fun K hK => ?_; simp (maxSteps := 3000000) (disch := omega) only [go_sem, ↓reduceIte, reduceCtorEq, pappend, plen]; refine VCx.call (f1 _) rfl ?_; simp (maxSteps := 3000000) (disch := omega) only [go_sem, ↓reduceIte, reduceCtorEq, pappend, plen]; refine hK _ _ ?_; clear hK K
        (repeat refine PW.seq ?_); refine PW.rg rfl fun K hK => ?_; simp (maxSteps := 3000000) (disch := omega) only [go_sem, ↓reduceIte, reduceCtorEq, pappend, plen]; refine VCx.call (f2 _) rfl ?_; simp (maxSteps := 3000000) (disch := omega) only [go_sem, ↓reduceIte, reduceCtorEq, pappend, plen]; refine hK _ _ ?_; clear hK K
        (repeat refine PW.seq ?_); refine PW.rg rfl fun K hK => ?_; simp (maxSteps := 3000000) (disch := omega) only [go_sem, ↓reduceIte, reduceCtorEq, pappend, plen]; refine VCx.call (awake12 _) rfl ?_; simp (maxSteps := 3000000) (disch := omega) only [go_sem, ↓reduceIte, reduceCtorEq, pappend, plen, beq_self_eq_true]; refine VCx.call (sb _) rfl ?_; simp (maxSteps := 3000000) (disch := omega) only [go_sem, ↓reduceIte, reduceCtorEq, pappend, plen]; refine hK _ _ ?_; clear hK K
        (refine PW.ret ⟨_, rfl, ?_⟩; first | refine .inl ⟨?_, rfl⟩ | refine Fin.base (.id' ?_ (.bool _)) | refine Fin.base (.id' ?_ (.int _ _)))
        rfl

end Go.Proofs.YtnnkohejhnjflaaGreatDoor.Sc

namespace Go.Proofs.YtnnkohejhnjflaaGreatDoor.Pm
set_option linter.all false
set_option linter.unusedVariables false
set_option linter.unusedSimpArgs false
open Go.ChangeShapes Go.WideShapes Go.ChangeAt Go.RowKit

variable {P : Program} {W : World}

theorem tab_of_trod {t e : TypeId} {n fuel : Nat} {k : IntKind} {cs : List Value} {z : List Int} {p : List MemPlace} (ht : P.underlying t = some (.array n e)) (he : P.underlying e = some (.int k)) (hc : P.cellsOf e = 1)
    (h : DataW.trod (fun _ => ()) P W 0 (fun _ => true) false fuel t cs = some (.agg (z.map fun x => .lit (.int k x)), p)) : ∀ (j : Nat) (x : Int), z[j]? = some x → cs[j]? = some (.int k x) := by
  obtain ⟨xs, m, rfl, hx, hlen, hn, hel⟩ := DataW.trod_array ht h
  intro j x hj
  simp only [Prod.mk.injEq, DataW.agg.injEq] at hx
  have hx1 := congrArg (fun l => l[j]?) hx.1
  simp only [List.getElem?_map, hj, Option.map_some] at hx1
  cases hy : xs[j]? with
  | none => rw [hy] at hx1; cases hx1
  | some y =>
    rw [hy] at hx1
    simp only [Option.map_some, Option.some.injEq] at hx1
    have hjn : j < n := by rw [← hn]; exact (List.getElem?_eq_some_iff.1 hy).1
    have hd := hel j hjn
    rw [hy, hc, Nat.mul_one] at hd
    obtain ⟨r, e1, e2, _⟩ := DataW.trod_int he hd
    rw [e2] at hx1
    simp only [DataW.lit.injEq, Lit.int.injEq, true_and] at hx1
    subst hx1
    have := congrArg (fun l => l[0]?) e1
    simpa using this
theorem laidVars_mem : ∀ {l : List (String × DataW Unit)} {ps : List MemPlace}, DataW.LaidVars P W l ps → ∀ x ∈ l, ∃ g t cs fuel p, P.globalNamed x.1 = some g ∧ (P.globals[g]?).map (·.type) = some t ∧ W.var? P x.1 = some cs ∧ DataW.trod (fun _ => ()) P W 0 (fun _ => true) false fuel t cs.toList = some (x.2, p)
  | [], _, _, x, hx => by cases hx
  | (n, d) :: r, ps, h, x, hx => by
    obtain ⟨g, t, cs, fuel, p, q, h1, h2, h3, h4, h5, _⟩ := h
    rcases List.mem_cons.1 hx with rfl | hx
    · exact ⟨g, t, cs, fuel, p, h1, h2, h3, h4⟩
    · exact laidVars_mem h5 x hx
theorem glob_row {l : List (String × DataW Unit)} {nm : String} {g n : Nat} {t e : TypeId} {k : IntKind} {z : List Int} (h : laidMet P l W) (hm : (nm, DataW.agg (z.map fun x => .lit (.int k x))) ∈ l) (hg : P.globalNamed nm = some g) (ht : (P.globals[g]?).map (·.type) = some t)
    (hu : P.underlying t = some (.array n e)) (he : P.underlying e = some (.int k)) (hc : P.cellsOf e = 1) : ∀ (j : Nat) (x : Int), z[j]? = some x → (Ctx.start W).M g j = some (.int k x) := fun j x hj => by
  obtain ⟨ps, hv, _⟩ := h
  obtain ⟨g', t', cs, fuel, p, h1, h2, h3, h4⟩ := laidVars_mem hv _ hm
  obtain rfl := Option.some.inj (hg.symm.trans h1)
  obtain rfl := Option.some.inj (ht.symm.trans h2)
  have h5 := tab_of_trod hu he hc h4 j x hj
  show W.cell? ⟨g, j, none⟩ = _
  rw [World.var?_cell hg h3 j, ← h5]
  simp
theorem glob_of {l : List (String × DataW Unit)} (h : laidMetH Tryz.prog l W) (hl : (l.all fun x => x.2.handleName?.isNone) = true)
    (h1 : ("cutroom/quant.alternateScan", Rows.laid_cutroom_quant_alternateScan) ∈ l)
    (h2 : ("cutroom/quant.defaultIntra", Rows.laid_cutroom_quant_defaultIntra) ∈ l)
    : Glob (Ctx.start W).M := by
  rw [MakeChecks.laidMetH_plain _ _ _ hl] at h
  intro g l hg
  unfold gtab at hg
  split at hg
  · rename_i e
    subst e
    obtain rfl := Option.some.inj hg
    intro j x hj
    unfold gAlt at hj
    rw [List.getElem?_map, Option.map_eq_some_iff] at hj
    obtain ⟨y, hy, rfl⟩ := hj
    exact glob_row (t := 137) h (k := .i64) h1 (by kernel_rfl) (by kernel_rfl) Tryz.underlying137 Tryz.underlying3 (by kernel_rfl) j y hy
  split at hg
  · rename_i e
    subst e
    obtain rfl := Option.some.inj hg
    intro j x hj
    unfold gIntra at hj
    rw [List.getElem?_map, Option.map_eq_some_iff] at hj
    obtain ⟨y, hy, rfl⟩ := hj
    exact glob_row (t := 24) h (k := .u8) h2 (by kernel_rfl) (by kernel_rfl) Tryz.underlying24 Tryz.underlying5 (by kernel_rfl) j y hy
  cases hg

end Go.Proofs.YtnnkohejhnjflaaGreatDoor.Pm

namespace Go.Proofs.YtnnkohejhnjflaaGreatDoor.Lsf
set_option linter.all false
set_option linter.unusedVariables false
set_option linter.unusedSimpArgs false
open Go.ChangeShapes Go.WideShapes Go.ChangeAt Go.RowKit Pm Sc Lp Lg

theorem law : ∀ xs, ArgsShp Tryz.prog Tryz.f6.params.toList xs → CallOk Tryz.prog 6 xs [] (.bool true) [] := by
  intro xs h
  rw [Tryz.params6] at h
  obtain ⟨x, r, rfl, hx, h⟩ := h.cons
  obtain rfl := h.nil
  obtain ⟨l, hh, hl⟩ := shp_items (hx.one (by simp [aggT, Tryz.underlying44]))
  cases hh
  exact law_formats12 l false [] hl

theorem door_met (os : Os) (args : Array Value) : laidMetH Tryz.prog Rows.streamFormatsRow.laid ((World.doorLaid Tryz.prog 19 os).forCall (fun _ _ => 0) ⟨#[], args, []⟩).memory :=
  laidMetH_of_parts3 (fuel := 8) (laidMet_of_run' 8 (by kernel_rfl) (by kernel_rfl)) (by kernel_rfl) (by kernel_rfl)
theorem mem0 {a : String × DataW Unit} {l : List (String × DataW Unit)} : a ∈ a :: l := .head _
theorem mem1 {a b : String × DataW Unit} {l : List (String × DataW Unit)} : a ∈ b :: a :: l := .tail _ (.head _)
set_option maxRecDepth 100000 in
theorem streamFormats_lifted (os : Os) (started : os.Started) (H : Type) (enc : TypeId × Value → H) :
    ReturnsInHanded {} Tryz.checked os 6 .any (fun w args => (Rows.streamFormatsSpec.pre enc Tryz.prog Tryz.f6 [] false w args ∧ laidMetH Tryz.prog Rows.streamFormatsRow.laid w) ∧ sizedMet enc Tryz.prog Tryz.f6 (OpenSpec.ofChange Rows.streamFormatsSpec) false w args) (Rows.streamFormatsSpec.post enc Tryz.prog Tryz.f6 false true false false) := by
  refine returnsInHanded_of_change_and (C := Tryz.checked) (X := fun w _ => laidMetH Tryz.prog Rows.streamFormatsRow.laid w) (fun _ _ _ hh h => h.of_heap hh) own started (by kernel_rfl) Tryz.func6
    (ChangeSpec.witness_shaped (enc := enc) (C := Tryz.checked) (os := os) (X := fun w _ => laidMetH Tryz.prog Rows.streamFormatsRow.laid w) false (World.doorLaid Tryz.prog 19 os) #[.slice none 0 0] 8 rfl (World.shaped_of_RefB (by kernel_rfl) (by kernel_rfl)) (by kernel_rfl) (by kernel_rfl) (by kernel_rfl) (door_met os _)) ?_
  intro W base args ds gs before hval hW _ _ hL _
  exact law_call (P := Tryz.prog) (fn := Tryz.f6) (n := 12) (tb := 4) (b0 := base) (r := .any) (glob_of hL (by kernel_rfl) mem0 mem1) law laidOut (by kernel_rfl) (by kernel_rfl) (by kernel_rfl) Tryz.underlying4 rfl
    (fun ds hd => match ds, hd with | [d0], _ => rfl) hval hW

theorem streamFormats_row : Rows.StreamFormatsSaid :=
  OpenClaim.holds_of_wide 6 Tryz.f6 rfl rfl rfl rfl rfl rfl rfl ⟨rfl, rfl, rfl, rfl, rfl⟩ rfl rfl rfl rfl rfl (by kernel_rfl) Tryz.func6 (by kernel_rfl)
    (of_decide_eq_true (by kernel_rfl)) (by unfold Func.isWrapper; first | (rw [if_pos (by decide +kernel)]; kernel_rfl) | (rw [if_neg (by decide +kernel)]; exact ⟨rfl, rfl⟩))
    (fun os started H enc _ => streamFormats_lifted os started H enc)

theorem streamFormats_holds : Rows.StreamFormatsCardSaid :=
  Claim7.holds_tied_plain_at .later [] [.data, .data] true (true, "4a213b617bba76336fb7fde16cbf2349a72f392070f07921fc4bbf5401463a47") false
    streamFormats_row (fun _ h => by cases h) (by kernel_rfl) (fun _ h => by cases h) streamFormats_row_tie rfl ⟨rfl, rfl⟩ (by kernel_rfl) rfl
    (fun f fn hf hfn => by
      obtain rfl : f = 6 := Option.some.inj ((show Tryz.prog.funcNamed "cutroom/cutroomlaw12.StreamFormats" = some 6 by kernel_rfl).symm.trans hf) |>.symm
      obtain rfl : fn = Tryz.f6 := (Option.some.inj (Tryz.func6.symm.trans hfn)).symm
      exact ⟨by kernel_rfl, fun j t ht => by
        have hm : t ∈ Tryz.f6.params.toList := by simpa using Array.mem_of_getElem? ht
        have hall : (Tryz.f6.params.toList.all fun u => !Tryz.prog.wantsStandIn u) = true := by kernel_rfl
        exact (show Tryz.prog.wantsStandIn t = false by simpa using List.all_eq_true.1 hall t hm)⟩)
    (by kernel_rfl)

end Go.Proofs.YtnnkohejhnjflaaGreatDoor.Lsf
