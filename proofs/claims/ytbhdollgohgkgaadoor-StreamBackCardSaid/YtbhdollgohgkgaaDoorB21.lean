/-
  Parts of the proof. No condition.
-/
import Derived.Test.YtbhdollgohgkgaaDoorB12
import Derived.Test.YtbhdollgohgkgaaDoorB11
import Derived.Test.YtbhdollgohgkgaaDoorB18
namespace Go.Proofs.YtbhdollgohgkgaaDoor.Sc
set_option linter.all false
set_option linter.unusedVariables false
set_option linter.unusedSimpArgs false
open Pm Ty S3 Go.RowKit

theorem fmt_good {t : Int} {p : List UInt8} (ht : 1 ≤ t ∧ t ≤ 255) (hp : p.length = 0 ∨ lastB p ≠ 0) : (fmtR t p).2 = 0 := by
  have he : ends0 p = false := by
    unfold ends0
    rcases hp with hp | hp
    · simp [hp]
    · have : (byt p (p.length - 1) == 0) = false := by
        unfold lastB at hp
        unfold byt
        simp
        intro h
        apply hp
        rw [List.getD, h]
      rw [this, Bool.and_false]
  have hs : escR p = (esc p, 0) := by unfold escR; rw [he]; simp
  unfold fmtR
  rw [if_neg (by omega), hs, if_pos rfl]
theorem fmt_l {t : Int} {p : List UInt8} (h : (fmtR t p).2 = 0) : (fmtR t p).1 = [0, 0, 1, UInt8.ofNat t.toNat] ++ (escR p).1 ∧ 1 ≤ t ∧ t ≤ 255 ∧ (escR p).2 = 0 := by
  unfold fmtR at h ⊢
  split at h
  · cases h
  · rename_i h1
    split at h
    · rename_i h2
      rw [if_neg h1, if_pos h2]
      exact ⟨rfl, by omega, by omega, h2⟩
    · rename_i h2
      exact absurd h h2
theorem fmt_bd (t : Int) (p : List UInt8) : (fmtR t p).1.length ≤ 4 + 2 * p.length := by
  have := escR_len p
  unfold fmtR
  split
  · simp
  · split
    · simp; omega
    · simp
theorem fmt_pos {t : Int} {p : List UInt8} (h : (fmtR t p).2 = 0) : 4 ≤ (fmtR t p).1.length := by
  rw [(fmt_l h).1]; simp
/-- The version of a unit's bytes. -/
def fv (e : List UInt8) : Nat := if e.length = 0 then 1 else 4 + e.length
theorem fv_le (e : List UInt8) : fv e ≤ 4 + e.length := by unfold fv; split <;> omega
set_option maxRecDepth 100000 in
theorem format_m (t : Int) (p : List UInt8) (full : Bool) (H : Heap) (hl : p.length ≤ 1000000) (h0 : (fmtR t p).2 = 0) :
    CallOk Tryd.prog 21 [.agg [.int .i64 t, .slice (bs p) p.length full]] H (.tup [.msl (H.length + 1) (fv (escR p).1) 0 (fmtR t p).1.length 1 true, .int .i64 0])
      (H ++ [⟨50, 0, [.int .i64 t, .slice (bs p) p.length full]⟩, ⟨5, fv (escR p).1, bs (fmtR t p).1⟩]) := by
  obtain ⟨f1, f2, f3, f4⟩ := fmt_l h0
  have eo := fun K => escape_ok p full K hl
  have hlen := escR_len p
  rw [f4] at eo
  unfold bv at eo
  rw [f1]
  generalize (escR p).1 = e at *
  have d1 : decide (t < 1) = false := decide_eq_false (by omega)
  have d2 : decide (255 < t) = false := decide_eq_false (by omega)
  have te : List.take e.length (bs e) = bs e := List.take_of_length_le (by rw [length_bs]; omega)
  refine CallOk.body (F0 := [(0, .agg [.int .i64 t, .slice (bs p) p.length full])]) Tryd.func21 rfl Tryd.ntmps21 Tryd.results21 rfl (by kernel_rfl) rfl ?_
  (repeat refine PW.seq ?_); refine PW.rg rfl fun K hK => ?_; simp (maxSteps := 3000000) (disch := omega) only [go_sem, ↓reduceIte, reduceCtorEq, pappend, plen]; refine hK _ _ ?_; clear hK K
  (repeat refine PW.seq ?_); refine PW.rg rfl fun K hK => ?_; simp (maxSteps := 3000000) (disch := omega) only [go_sem, ↓reduceIte, reduceCtorEq, pappend, plen, d1, d2]; refine hK _ _ ?_; clear hK K
  (repeat refine PW.seq ?_); refine PW.cond (t := _) rfl (fun h => ?_) (fun h => ?_)
  · cases h
  refine PW.skip ?_
  (repeat refine PW.seq ?_); refine PW.rg rfl fun K hK => ?_; simp (maxSteps := 3000000) (disch := omega) only [go_sem, ↓reduceIte, reduceCtorEq, pappend, plen]; refine VCx.call (eo _) rfl ?_; simp (maxSteps := 3000000) (disch := omega) only [go_sem, ↓reduceIte, reduceCtorEq, pappend, plen]; refine hK _ _ ?_; clear hK K
  (repeat refine PW.seq ?_); refine PW.rg rfl fun K hK => ?_; simp (maxSteps := 3000000) (disch := omega) only [go_sem, ↓reduceIte, reduceCtorEq, pappend, plen]; refine hK _ _ ?_; clear hK K
  (repeat refine PW.seq ?_); refine PW.cond (t := _) rfl (fun h => ?_) (fun h => ?_)
  · cases h
  refine PW.skip ?_
  (repeat refine PW.seq ?_)
  refine PW.view (Vs.place 5) ?_
  refine PW.eq rfl (show _ = H ++ [⟨50, 0, [.int .i64 t, .slice (bs p) p.length full]⟩, ⟨5, 0, []⟩] from List.append_assoc _ _ _) ?_
  (repeat refine PW.seq ?_); refine PW.seqi [H.length + 1] [(26, 0)] rfl fun K hK => ?_
  by_cases he : e.length = 0
  · have hz : e = [] := List.eq_nil_of_length_eq_zero he
    subst hz
    simp (maxSteps := 3000000) (disch := omega) only [go_sem, ↓reduceIte, reduceCtorEq, pappend, plen, length_bs]
    refine hK _ _ ?_; clear hK K
    refine PW.ret ⟨.tup [.msl (H.length + 1) 1 0 4 1 true, .int .i64 0], by simp (maxSteps := 3000000) (disch := omega) only [go_sem, ↓reduceIte, reduceCtorEq, pappend, plen, presults, presult, List.mapM_cons, List.mapM_nil, Option.pure_def, Option.bind_eq_bind, Option.bind_some, Array.toList], ?_⟩
    refine .inl ⟨rfl, ?_⟩
    simp [fv, bs]; omega
  · simp (maxSteps := 3000000) (disch := omega) only [go_sem, ↓reduceIte, reduceCtorEq, pappend, plen, length_bs, he, te]
    refine hK _ _ ?_; clear hK K
    refine PW.ret ⟨.tup [.msl (H.length + 1) (e.length + 1 + 1 + 1 + 1) 0 (4 + e.length) 1 true, .int .i64 0], by simp (maxSteps := 3000000) (disch := omega) only [go_sem, ↓reduceIte, reduceCtorEq, pappend, plen, presults, presult, List.mapM_cons, List.mapM_nil, Option.pure_def, Option.bind_eq_bind, Option.bind_some, Array.toList], ?_⟩
    refine .inl ⟨?_, ?_⟩
    · simp [fv, he]; omega
    · simp [fv, he, bs]; omega

/-! ### a picture's user data and slices -/
def fU (u : List UInt8) : List UInt8 := (fmtR 178 (u ++ [128])).1
theorem fU_ok (u : List UInt8) : (fmtR 178 (u ++ [128])).2 = 0 := fmt_good (by decide) (.inr (by
  unfold lastB
  rw [List.length_append]
  simp))
theorem fU_bd (u : List UInt8) : 4 ≤ (fU u).length ∧ (fU u).length ≤ 2 * u.length + 6 := by
  have h1 := fmt_pos (fU_ok u)
  have h2 := fmt_bd 178 (u ++ [128])
  rw [List.length_append, List.length_singleton] at h2
  unfold fU
  omega
abbrev BV := List UInt8 × Nat
def more (x : BV) (e : List UInt8) : BV := (x.1 ++ e, (x.1 ++ e).length)
def apU : BV → List (List UInt8) → BV × Int
  | x, [] => (x, 0)
  | x, u :: r => if 256 < u.length then (x, 5) else apU (more x (fU u)) r
def apS : BV → List (Int × List UInt8) → BV × Int
  | x, [] => (x, 0)
  | x, u :: r => if 1 ≤ u.1 ∧ u.1 < 5 then (if (fmtR u.1 u.2).2 = 0 then apS (more x (fmtR u.1 u.2).1) r else (x, (fmtR u.1 u.2).2)) else (x, 1)
def apP (x : BV) (U : List (List UInt8)) (us : List (Int × List UInt8)) : BV × Int := if (apU x U).2 = 0 then apS (apU x U).1 us else apU x U
def bB (x : BV) : Blk := ⟨5, x.2, bs x.1⟩
def bS (id : Nat) (x : BV) : PV := .msl id x.2 0 x.1.length 1 true
def rvA (id : Nat) (r : BV × Int) : PV := if r.2 = 0 then .tup [bS id r.1, .int .i64 0] else .tup [.slice [] 0 true, .int .i64 r.2]
theorem usl_ok (t : Int) (H : Heap) : CallOk Tryd.prog 27 [.int .i64 t] H (.bool (decide (1 ≤ t) && decide (t < 5))) H := by
  refine CallOk.body (F0 := [(0, .int .i64 t)]) Tryd.func27 rfl Tryd.ntmps27 Tryd.results27 rfl (by kernel_rfl) rfl ?_
  (repeat' (first | refine PW.seq ?_ | refine PW.skip ?_ | refine PW.block ?_ | (refine PW.rg rfl fun K hK => ?_; simp (maxSteps := 3000000) (disch := omega) only [go_sem, ↓reduceIte, reduceCtorEq, pappend, plen]) | (refine PW.draw mix (by kernel_rfl) fun K hK => ?_; simp (maxSteps := 3000000) (disch := omega) only [go_sem, ↓reduceIte, reduceCtorEq, pappend, plen]) | (refine PW.drawg mix (by kernel_rfl) fun K hK => ?_; simp (maxSteps := 3000000) (disch := omega) only [go_sem, ↓reduceIte, reduceCtorEq, pappend, plen]) | (refine PW.drawt [] [] mix (by kernel_rfl) fun K hK => ?_; simp (maxSteps := 3000000) (disch := omega) only [go_sem, ↓reduceIte, reduceCtorEq, pappend, plen]) | ((first | refine VO_cond ?_ ?_ | refine VOd_cond ?_ ?_ | refine VOg_cond ?_ ?_ | refine VOh_cond ?_ ?_ | refine VOi_cond ?_ ?_ | refine And.intro ?_ ?_) <;> intro h <;> (try simp only [Bool.not_eq_true', Bool.not_eq_false', decide_eq_true_eq, decide_eq_false_iff_not] at h) <;> simp (maxSteps := 3000000) (disch := omega) only [go_sem, ↓reduceIte, reduceCtorEq, pappend, plen, h]) | (refine hK _ _ ?_; clear hK K) | (refine PW.cond (t := _) rfl (fun h => ?_) (fun h => ?_) <;> (try (cases h; done)) <;> (try simp only [Bool.not_eq_true', Bool.not_eq_false', decide_eq_true_eq, decide_eq_false_iff_not] at h))))
  all_goals ((refine PW.ret ⟨_, rfl, ?_⟩; first | refine .inl ⟨?_, rfl⟩ | refine Fin.base (.id' ?_ (.bool _)) | refine Fin.base (.id' ?_ (.int _ _))); (simp_all [slot, Nat.beq] <;> first | rfl | omega | (rw [Bool.eq_iff_iff]; simp; done) | (rw [Bool.eq_iff_iff]; simp; omega)))
/-- What appendPicture has in memory. -/
def aH (H : Heap) (id : Nat) (x : BV) (C : List PV) : Heap := H.set id (bB x) ++ [⟨37, 0, C⟩]
theorem aH_0 (H : Heap) (id : Nat) (x : BV) (C : List PV) (K : Heap) : (aH H id x C ++ K)[H.length]? = some ⟨37, 0, C⟩ := by
  unfold aH
  rw [List.append_assoc, List.getElem?_append_right (by simp)]; simp
theorem aH_z (H : Heap) (id : Nat) (x : BV) (C : List PV) : (aH H id x C)[H.length]? = some ⟨37, 0, C⟩ := by
  have := aH_0 H id x C []
  rwa [List.append_nil] at this
theorem aH_id {H : Heap} {id : Nat} (x : BV) (C : List PV) (h : id < H.length) : (aH H id x C)[id]? = some (bB x) := by
  unfold aH
  rw [List.getElem?_append_left (by simpa using h)]; simp [h]
theorem aH_l (H : Heap) (id : Nat) (x : BV) (C : List PV) : (aH H id x C).length = H.length + 1 := by simp [aH]
theorem aH_1 (H : Heap) (id : Nat) (x : BV) (C : List PV) (b : Blk) (K : Heap) : (aH H id x C ++ b :: K)[H.length + 1]? = some b := by
  have := hp0 (aH H id x C) K b
  rwa [aH_l] at this
theorem aH_s1 (H : Heap) (id : Nat) (x : BV) (C : List PV) (b X : Blk) (K : Heap) : (aH H id x C ++ b :: K).set (H.length + 1) X = aH H id x C ++ X :: K := by
  have := hs0 (aH H id x C) K b X
  rwa [aH_l] at this
theorem aH_sc {H : Heap} {id : Nat} {x : BV} {p : Pi} {U : List (List UInt8)} {us : List (Int × List UInt8)} (h : HSc H) : HSc (aH H id x (cdc p U us)) := hscW (fun b hb y hy => by
  simp only [List.mem_cons, List.not_mem_nil, or_false] at hb
  subst hb
  exact cdc_sc _ _ _ _ y hy) (HSc.set h (bs_scoped _ _))

set_option maxHeartbeats 8000000 in
set_option maxRecDepth 100000 in
theorem app_ok (id : Nat) (x : BV) (p : Pi) (U : List (List UInt8)) (us : List (Int × List UInt8)) (H : Heap) (hid : H[id]? = some (bB x)) (hx1 : x.2 ≤ x.1.length) (hx2 : x.1.length ≤ 1000000) (hU : U.length ≤ 10000) (hu : us.length ≤ 10000) (hup : ∀ u ∈ us, u.2.length ≤ 1000000) :
    CallOk Tryd.prog 22 [bS id x, .agg (cdc p U us)] H (rvA id (apP x U us)) (H.set id (bB (apP x U us).1)) := by
  have hi := (List.getElem?_eq_some_iff.1 hid).1
  have hself : H.set id (bB x) = H := set_self hid
  have fin0 : ∀ (y : BV) (e : Int) (K : Heap), e ≠ 0 → Fin H (rvA id (y, e)) (H.set id (bB y)) (.tup [.slice [] 0 true, .int .i64 e]) (aH H id y (cdc p U us) ++ K) := fun y e K he => by
    unfold rvA aH
    rw [if_neg he, List.append_assoc]
    exact Fin.cut rfl (by simp) (fun h => HSc.set h (bs_scoped _ _)) (.id (.tup (all_scoped fun z hz => by
      simp only [List.mem_cons, List.not_mem_nil, or_false] at hz
      rcases hz with rfl | rfl
      · exact sl_scoped (fun w hw => by cases hw)
      · exact .int _ _)))
  refine CallOk.body (F0 := [(0, bS id x), (1, .agg (cdc p U us))]) Tryd.func22 rfl Tryd.ntmps22 Tryd.results22 rfl (by kernel_rfl) rfl ?_
  have c1 := cdc_cell p U us
  have c2 := cdc_len p U us
  have c6 : (cdc p U us)[6]? = some (usr U) := rfl
  have c7 := cdc_7 p U us
  have ul := usr_l U
  (repeat refine PW.seq ?_); refine PW.rg rfl fun K hK => ?_; simp (maxSteps := 3000000) (disch := omega) only [go_sem, ↓reduceIte, reduceCtorEq, pappend, plen, c1]; refine hK _ _ ?_; clear hK K
  refine PW.at [0, 3] (F1 := [(0, bS id x), (3, .ptr H.length 0 0)]) (H1 := aH H id x (cdc p U us)) ?_ rfl (by unfold aH; rw [hself])
  (repeat refine PW.seq ?_); refine PW.rg rfl fun K hK => ?_; simp (maxSteps := 3000000) (disch := omega) only [go_sem, ↓reduceIte, reduceCtorEq, pappend, plen, aH_z, c2, c6, usr]; refine hK _ _ ?_; clear hK K
  (repeat refine PW.seq ?_); refine PW.block (PW.loop ?_)
  suffices hl1 : ∀ (k : Nat) (y : BV), k ≤ U.length → y.2 ≤ y.1.length → y.1.length ≤ 1000000 + k * 1000 → apU x U = apU y (U.drop k) → PL Tryd.prog _ _ [(0, bS id y), (3, .ptr H.length 0 0), (16, .slice (U.flatMap usr1) U.length false), (17, .int .i64 (U.length : Int)), (18, .int .i64 (k : Int))] (aH H id y (cdc p U us)) _ by
    exact PL.at [0, 3, 16, 17, 18] (hl1 0 x (by omega) hx1 (by omega) rfl) rfl rfl
  intro k y hk hy1 hy2 hf
  induction hd : U.length - k using Nat.strongRecOn generalizing k y with
  | _ d ih =>
    refine PL.round ?_; (repeat refine PW.seq ?_); refine PW.rg rfl fun K hK => ?_; simp (maxSteps := 3000000) (disch := omega) only [go_sem, ↓reduceIte, reduceCtorEq, pappend, plen]; refine hK _ _ ?_; clear hK K
    (repeat refine PW.seq ?_); refine PW.cond (t := _) rfl (fun h => ?_) (fun h => ?_)
    · have hkU : k < U.length := by have := of_decide_eq_true h; omega
      have ua := usr_at U k hkU
      have hnext := fun z h1 h2 h3 => ih (U.length - (k + 1)) (by omega) (k + 1) z (by omega) h1 h2 h3 rfl
      rw [List.drop_eq_getElem_cons hkU, apU] at hf
      have fb := fU_bd U[k]
      have fo := fU_ok U[k]
      generalize U[k] = u at *
      refine PW.skip ?_; (repeat refine PW.seq ?_); refine PW.block ?_
      (repeat refine PW.seq ?_); refine PW.rg rfl fun K hK => ?_; simp (maxSteps := 3000000) (disch := omega) only [go_sem, ↓reduceIte, reduceCtorEq, pappend, plen, ua, ul]; refine hK _ _ ?_; clear hK K
      by_cases h256 : 256 < u.length
      · rw [if_pos h256] at hf
        have d1 : decide ((256 : Int) < (u.length : Int)) = true := decide_eq_true (by omega)
        (repeat refine PW.seq ?_); refine PW.rg rfl fun K hK => ?_; simp (maxSteps := 3000000) (disch := omega) only [go_sem, ↓reduceIte, reduceCtorEq, pappend, plen, d1]; refine hK _ _ ?_; clear hK K
        (repeat refine PW.seq ?_); refine PW.cond (t := _) rfl (fun h => ?_) (fun h => ?_)
        rotate_left
        · cases h
        (repeat refine PW.seq ?_); refine PW.rg rfl fun K hK => ?_; simp (maxSteps := 3000000) (disch := omega) only [go_sem, ↓reduceIte, reduceCtorEq, pappend, plen]; refine hK _ _ ?_; clear hK K
        refine PW.ret ⟨.tup [.slice [] 0 true, .int .i64 5], by simp (maxSteps := 3000000) (disch := omega) only [go_sem, ↓reduceIte, reduceCtorEq, pappend, plen, presults, presult, List.mapM_cons, List.mapM_nil, Option.pure_def, Option.bind_eq_bind, Option.bind_some, Array.toList], ?_⟩
        have : apP x U us = (y, 5) := by unfold apP; rw [hf, if_neg (by simp)]
        rw [this]
        have := fin0 y 5 [] (by decide)
        rwa [List.append_nil] at this
      · rw [if_neg h256] at hf
        have d1 : decide ((256 : Int) < (u.length : Int)) = false := decide_eq_false (by omega)
        (repeat refine PW.seq ?_); refine PW.rg rfl fun K hK => ?_; simp (maxSteps := 3000000) (disch := omega) only [go_sem, ↓reduceIte, reduceCtorEq, pappend, plen, d1]; refine hK _ _ ?_; clear hK K
        (repeat refine PW.seq ?_); refine PW.cond (t := _) rfl (fun h => ?_) (fun h => ?_)
        · cases h
        refine PW.skip ?_
        have bl := length_bs u
        have tb : List.take u.length (bs u) = bs u := List.take_of_length_le (by omega)
        (repeat refine PW.seq ?_); refine PW.rg rfl fun K hK => ?_; simp (maxSteps := 3000000) (disch := omega) only [go_sem, ↓reduceIte, reduceCtorEq, pappend, plen, bl, tb, aH_l, Nat.sub_zero, List.length_append]; refine hK _ _ ?_; clear hK K
        have hbu : bs (u ++ [128]) = bs u ++ [.int .u8 128] := by rw [bs_append]; rfl
        have hlu : (u ++ [128]).length = u.length + 1 := by simp
        refine PW.keep [0, 3, 8, 16, 17, 18] ?_
        refine PW.view (Vs.trim (F1 := [(0, bS id y), (3, .ptr H.length 0 0), (8, .slice (bs (u ++ [128])) (u ++ [128]).length false), (16, .slice (U.flatMap usr1) U.length false), (17, .int .i64 (U.length : Int)), (18, .int .i64 (k : Int))]) (H1 := aH H id y (cdc p U us)) aH_sc (by show H.length ≤ _; rw [aH_l]; omega) rfl ?_) ?_
        · rw [aH_l]
          refine ⟨.id (.msl (by omega)), .id (.ptr (by omega)), ?_, .id (sl_scoped ?_), .id (.int _ _), .id (.int _ _), trivial⟩
          · rw [hlu]
            refine Fz.mslC (e := 5) (xs := bs (u ++ [128])) (Nat.le_refl _) ?_ (by rw [length_bs, hlu, Nat.mul_one]) (FzC.refl (bs_scoped _ _))
            rw [hbu]
            have := hp0 (aH H id y (cdc p U us)) [] ⟨5, u.length + 1, bs u ++ [.int .u8 128]⟩
            rwa [aH_l] at this
          · intro z hz
            obtain ⟨w, _, hz⟩ := List.mem_flatMap.1 hz
            simp only [usr1, List.mem_cons, List.not_mem_nil, or_false] at hz
            rw [hz]
            exact sl_scoped (bs_scoped _ _)
        have fm := fun K => format_ok 178 (u ++ [128]) false K (by omega)
        rw [fo] at fm
        unfold bv at fm
        change ∀ K, CallOk _ _ _ K (.tup [.slice (bs (fU u)) (fU u).length false, _]) K at fm
        generalize u ++ [128] = u' at *
        obtain ⟨e, he⟩ : ∃ e, e = fU u := ⟨_, rfl⟩
        rw [← he] at fm hf fb
        have hnext := hnext (more y e) (Nat.le_refl _) (by simp only [more, List.length_append]; rw [Nat.add_mul]; omega) hf
        have hid' := aH_id y (cdc p U us) hi
        have hs' : ∀ z, (aH H id y (cdc p U us)).set id z = H.set id z ++ [⟨37, 0, cdc p U us⟩] := fun z => by
          unfold aH
          rw [List.set_append_left _ _ (by simpa using hi), List.set_set]
        have te : List.take e.length (bs e) = bs e := List.take_of_length_le (by rw [length_bs]; omega)
        have be := length_bs e
        have by' := length_bs y.1
        (repeat refine PW.seq ?_); refine PW.rg rfl fun K hK => ?_; simp (maxSteps := 3000000) (disch := omega) only [go_sem, ↓reduceIte, reduceCtorEq, pappend, plen]; refine VCx.call (fm _) rfl ?_; simp (maxSteps := 3000000) (disch := omega) only [go_sem, ↓reduceIte, reduceCtorEq, pappend, plen]; refine hK _ _ ?_; clear hK K
        (repeat refine PW.seq ?_); refine PW.rg rfl fun K hK => ?_; simp (maxSteps := 3000000) (disch := omega) only [go_sem, ↓reduceIte, reduceCtorEq, pappend, plen]; refine hK _ _ ?_; clear hK K
        (repeat refine PW.seq ?_); refine PW.cond (t := _) rfl (fun h => ?_) (fun h => ?_)
        · cases h
        refine PW.skip ?_
        (repeat refine PW.seq ?_); refine PW.rg rfl fun K hK => ?_; simp (maxSteps := 3000000) (disch := omega) only [go_sem, ↓reduceIte, reduceCtorEq, pappend, plen, bS, hid', bB, te, be, by', hs', List.length_append]; refine hK _ _ ?_; clear hK K
        (repeat refine PW.seq ?_); refine PW.rg rfl fun K hK => ?_; simp (maxSteps := 3000000) (disch := omega) only [go_sem, ↓reduceIte, reduceCtorEq, pappend, plen]; refine hK _ _ ?_; clear hK K
        refine PL.at [0, 3, 16, 17, 18] hnext ?_ ?_
        · simp only [bS, more, List.length_append]; rfl
        · simp only [aH, bB, more, List.length_append, bs_append]
    · have hkU : k = U.length := by have := of_decide_eq_false h; omega
      refine PW.exit ?_
      rw [hkU, List.drop_length, apU] at hf
      have hy3 : y.1.length ≤ 11000000 := by rw [hkU] at hy2; omega
      have hap : apP x U us = apS y us := by unfold apP; rw [hf, if_pos rfl]
      rw [hap]
      clear ih hid hself hf
      have b2 := uq_len us
      (repeat refine PW.seq ?_); refine PW.rg rfl fun K hK => ?_; simp (maxSteps := 3000000) (disch := omega) only [go_sem, ↓reduceIte, reduceCtorEq, pappend, plen, aH_z, c2, c7]; refine hK _ _ ?_; clear hK K
      (repeat refine PW.seq ?_); refine PW.block (PW.loop ?_)
      suffices hl2 : ∀ (j : Nat) (z : BV), j ≤ us.length → z.2 ≤ z.1.length → z.1.length ≤ 11000000 + j * 2000004 → apS y us = apS z (us.drop j) → PL Tryd.prog _ _ [(0, bS id z), (47, .slice (uq us) us.length false), (48, .int .i64 (us.length : Int)), (49, .int .i64 (j : Int))] (aH H id z (cdc p U us)) _ by
        exact PL.at [0, 47, 48, 49] (hl2 0 y (by omega) hy1 (by omega) rfl) rfl rfl
      clear hy1 hy3 hy2 hap
      intro j z hj hz1 hz2 hg
      induction hd2 : us.length - j using Nat.strongRecOn generalizing j z with
      | _ d2 ih2 =>
        refine PL.round ?_; (repeat refine PW.seq ?_); refine PW.rg rfl fun K hK => ?_; simp (maxSteps := 3000000) (disch := omega) only [go_sem, ↓reduceIte, reduceCtorEq, pappend, plen]; refine hK _ _ ?_; clear hK K
        (repeat refine PW.seq ?_); refine PW.cond (t := _) rfl (fun h => ?_) (fun h => ?_)
        · have hju : j < us.length := by have := of_decide_eq_true h; omega
          have u2 := uq_at us j hju
          have hl6 := hup us[j] (List.getElem_mem hju)
          have hnext := fun z h1 h2 h3 => ih2 (us.length - (j + 1)) (by omega) (j + 1) z (by omega) h1 h2 h3 rfl
          rw [List.drop_eq_getElem_cons hju, apS] at hg
          generalize us[j] = u at *
          unfold uq1 at u2
          refine PW.skip ?_; (repeat refine PW.seq ?_); refine PW.block ?_
          (repeat refine PW.seq ?_); refine PW.rg rfl fun K hK => ?_; simp (maxSteps := 3000000) (disch := omega) only [go_sem, ↓reduceIte, reduceCtorEq, pappend, plen, u2, b2, aH_l, aH_1, aH_s1]; refine hK _ _ ?_; clear hK K
          have so := fun K => usl_ok u.1 K
          have hp0' := hp0 (aH H id z (cdc p U us)) [] ⟨50, 0, [.int .i64 u.1, .slice (bs u.2) u.2.length false]⟩
          rw [aH_l] at hp0'
          by_cases ht : 1 ≤ u.1 ∧ u.1 < 5
          rotate_left
          · rw [if_neg ht] at hg
            have hsb : (decide (1 ≤ u.1) && decide (u.1 < 5)) = false := by
              by_cases h1 : 1 ≤ u.1
              · have h5 : ¬ u.1 < 5 := fun h => ht ⟨h1, h⟩
                simp [h5]
              · simp [h1]
            rw [hsb] at so
            (repeat refine PW.seq ?_); refine PW.rg rfl fun K hK => ?_; simp (maxSteps := 3000000) (disch := omega) only [go_sem, ↓reduceIte, reduceCtorEq, pappend, plen, hp0']; refine VCx.call (so _) rfl ?_; simp (maxSteps := 3000000) (disch := omega) only [go_sem, ↓reduceIte, reduceCtorEq, pappend, plen]; refine hK _ _ ?_; clear hK K
            (repeat refine PW.seq ?_); refine PW.cond (t := _) rfl (fun h => ?_) (fun h => ?_)
            rotate_left
            · cases h
            (repeat refine PW.seq ?_); refine PW.rg rfl fun K hK => ?_; simp (maxSteps := 3000000) (disch := omega) only [go_sem, ↓reduceIte, reduceCtorEq, pappend, plen]; refine hK _ _ ?_; clear hK K
            refine PW.ret ⟨.tup [.slice [] 0 true, .int .i64 1], by simp (maxSteps := 3000000) (disch := omega) only [go_sem, ↓reduceIte, reduceCtorEq, pappend, plen, presults, presult, List.mapM_cons, List.mapM_nil, Option.pure_def, Option.bind_eq_bind, Option.bind_some, Array.toList], ?_⟩
            rw [hg]
            exact fin0 z 1 _ (by decide)
          rw [if_pos ht] at hg
          have hsb : (decide (1 ≤ u.1) && decide (u.1 < 5)) = true := by simp [ht.1, ht.2]
          rw [hsb] at so
          (repeat refine PW.seq ?_); refine PW.rg rfl fun K hK => ?_; simp (maxSteps := 3000000) (disch := omega) only [go_sem, ↓reduceIte, reduceCtorEq, pappend, plen, hp0']; refine VCx.call (so _) rfl ?_; simp (maxSteps := 3000000) (disch := omega) only [go_sem, ↓reduceIte, reduceCtorEq, pappend, plen]; refine hK _ _ ?_; clear hK K
          (repeat refine PW.seq ?_); refine PW.cond (t := _) rfl (fun h => ?_) (fun h => ?_)
          · cases h
          refine PW.skip ?_
          have fm := fun K => format_ok u.1 u.2 false K hl6
          have fb := fmt_bd u.1 u.2
          unfold bv at fm
          by_cases he0 : (fmtR u.1 u.2).2 = 0
          rotate_left
          · rw [if_neg he0] at hg
            have hb0 : ((fmtR u.1 u.2).2 != 0) = true := by simp [he0]
            generalize (fmtR u.1 u.2).2 = ee at *
            (repeat refine PW.seq ?_); refine PW.rg rfl fun K hK => ?_; simp (maxSteps := 3000000) (disch := omega) only [go_sem, ↓reduceIte, reduceCtorEq, pappend, plen, hp0']; refine VCx.call (fm _) rfl ?_; simp (maxSteps := 3000000) (disch := omega) only [go_sem, ↓reduceIte, reduceCtorEq, pappend, plen]; refine hK _ _ ?_; clear hK K
            (repeat refine PW.seq ?_); refine PW.rg rfl fun K hK => ?_; simp (maxSteps := 3000000) (disch := omega) only [go_sem, ↓reduceIte, reduceCtorEq, pappend, plen, hb0]; refine hK _ _ ?_; clear hK K
            (repeat refine PW.seq ?_); refine PW.cond (t := _) rfl (fun h => ?_) (fun h => ?_)
            rotate_left
            · cases h
            (repeat refine PW.seq ?_); refine PW.rg rfl fun K hK => ?_; simp (maxSteps := 3000000) (disch := omega) only [go_sem, ↓reduceIte, reduceCtorEq, pappend, plen]; refine hK _ _ ?_; clear hK K
            refine PW.ret ⟨.tup [.slice [] 0 true, .int .i64 ee], by simp (maxSteps := 3000000) (disch := omega) only [go_sem, ↓reduceIte, reduceCtorEq, pappend, plen, presults, presult, List.mapM_cons, List.mapM_nil, Option.pure_def, Option.bind_eq_bind, Option.bind_some, Array.toList], ?_⟩
            rw [hg]
            exact fin0 z ee _ he0
          rw [if_pos he0] at hg
          rw [he0] at fm
          have fp := fmt_pos he0
          obtain ⟨e, he⟩ : ∃ e, e = (fmtR u.1 u.2).1 := ⟨_, rfl⟩
          rw [← he] at fm hg fb fp
          have hnext := hnext (more z e) (Nat.le_refl _) (by simp only [more, List.length_append]; rw [Nat.add_mul]; omega) hg
          have hz3 : z.1.length ≤ 30000000000 := by omega
          have te : List.take e.length (bs e) = bs e := List.take_of_length_le (by rw [length_bs]; omega)
          have be := length_bs e
          have by' := length_bs z.1
          (repeat refine PW.seq ?_); refine PW.rg rfl fun K hK => ?_; simp (maxSteps := 3000000) (disch := omega) only [go_sem, ↓reduceIte, reduceCtorEq, pappend, plen, hp0']; refine VCx.call (fm _) rfl ?_; simp (maxSteps := 3000000) (disch := omega) only [go_sem, ↓reduceIte, reduceCtorEq, pappend, plen]; refine hK _ _ ?_; clear hK K
          (repeat refine PW.seq ?_); refine PW.rg rfl fun K hK => ?_; simp (maxSteps := 3000000) (disch := omega) only [go_sem, ↓reduceIte, reduceCtorEq, pappend, plen]; refine hK _ _ ?_; clear hK K
          (repeat refine PW.seq ?_); refine PW.cond (t := _) rfl (fun h => ?_) (fun h => ?_)
          · cases h
          refine PW.skip ?_
          refine PW.keep [0, 13, 47, 48, 49] ?_
          refine PW.view (Vs.trim (F1 := [(0, bS id z), (13, .slice (bs e) e.length false), (47, .slice (uq us) us.length false), (48, .int .i64 (us.length : Int)), (49, .int .i64 (j : Int))]) (H1 := aH H id z (cdc p U us)) aH_sc (by show H.length ≤ _; rw [aH_l]; omega) rfl ?_) ?_
          · rw [aH_l]
            exact ⟨.id (.msl (by omega)), .id (sl_scoped (bs_scoped _ _)), .id (sl_scoped (uq_sc _ _)), .id (.int _ _), .id (.int _ _), trivial⟩
          have hid' := aH_id z (cdc p U us) hi
          have hs' : ∀ w, (aH H id z (cdc p U us)).set id w = H.set id w ++ [⟨37, 0, cdc p U us⟩] := fun w => by
            unfold aH
            rw [List.set_append_left _ _ (by simpa using hi), List.set_set]
          (repeat refine PW.seq ?_); refine PW.rg rfl fun K hK => ?_; simp (maxSteps := 3000000) (disch := omega) only [go_sem, ↓reduceIte, reduceCtorEq, pappend, plen, bS, hid', bB, te, be, by', hs', List.length_append]; refine hK _ _ ?_; clear hK K
          (repeat refine PW.seq ?_); refine PW.rg rfl fun K hK => ?_; simp (maxSteps := 3000000) (disch := omega) only [go_sem, ↓reduceIte, reduceCtorEq, pappend, plen]; refine hK _ _ ?_; clear hK K
          refine PL.at [0, 47, 48, 49] hnext ?_ ?_
          · simp only [bS, more, List.length_append]; rfl
          · simp only [aH, bB, more, List.length_append, bs_append]
        · have hju : j = us.length := by have := of_decide_eq_false h; omega
          refine PW.exit ?_
          rw [hju, List.drop_length, apS] at hg
          rw [hg]
          (repeat refine PW.seq ?_); refine PW.rg rfl fun K hK => ?_; simp (maxSteps := 3000000) (disch := omega) only [go_sem, ↓reduceIte, reduceCtorEq, pappend, plen]; refine hK _ _ ?_; clear hK K
          refine PW.ret ⟨.tup [bS id z, .int .i64 0], by simp (maxSteps := 3000000) (disch := omega) only [go_sem, ↓reduceIte, reduceCtorEq, pappend, plen, presults, presult, List.mapM_cons, List.mapM_nil, Option.pure_def, Option.bind_eq_bind, Option.bind_some, Array.toList], ?_⟩
          unfold rvA aH
          rw [if_pos rfl]
          exact Fin.cut rfl (by simp) (fun h => HSc.set h (bs_scoped _ _)) (.id (.tup (all_scoped fun w hw => by
            simp only [List.mem_cons, List.not_mem_nil, or_false] at hw
            rcases hw with rfl | rfl
            · exact .msl (by simpa using hi)
            · exact .int _ _)))

end Go.Proofs.YtbhdollgohgkgaaDoor.Sc

namespace Go.Proofs.YtbhdollgohgkgaaDoor.Sc
set_option linter.all false
set_option linter.unusedVariables false
set_option linter.unusedSimpArgs false
open Pm Ty S3 Go.RowKit

def hdU (x : It) : Int × List UInt8 × Int := if x.k = 1 then putS x.s else if x.k = 2 then putG x.gc x.gb x.gt else if x.k = 3 then putH x.p else (183, [], 0)
def okI (x : It) : Bool := decide (1 ≤ x.k) && (decide (x.k ≤ 4) && (decide (0 ≤ x.pad) && decide (x.pad ≤ 1048576)))
/-- A head's bytes. -/
def hdB (x : It) : List UInt8 := (fmtR (hdU x).1 (hdU x).2.1).1
def hdV (x : It) : BV := (hdB x, fv (escR (hdU x).2.1).1)
def itB (x : It) : List UInt8 × Int :=
  if okI x then (if (hdU x).2.2 = 0 then (if x.k = 3 then (if (apP (hdV x) x.U x.us).2 = 0 then ((apP (hdV x) x.U x.us).1.1, 0) else ([], (apP (hdV x) x.U x.us).2)) else (hdB x, 0)) else ([], (hdU x).2.2)) else ([], 1)
def rvBV (r : List UInt8 × Int) : PV := .tup [.slice (bs r.1) r.1.length false, .int .i64 r.2]
theorem pay_last (L : List Bool) : lastB (pk (L ++ [true])) ≠ 0 := (pk_payload L).2.1
theorem hdU_fmt {x : It} (h : (hdU x).2.2 = 0) : (fmtR (hdU x).1 (hdU x).2.1).2 = 0 ∧ (hdU x).2.1.length ≤ 200 := by
  unfold hdU at h ⊢
  split
  · rename_i h1
    rw [if_pos h1] at h
    unfold putS at h ⊢
    split
    · refine ⟨fmt_good ⟨by simp, by simp⟩ (.inr (pay_last _)), ?_⟩
      show (pk (sbits x.s ++ [true])).length ≤ _
      rw [pk_len]
      have h1 := mxb_len x.s.ia dIn
      have h2 := mxb_len x.s.ie dIt
      simp [sbits, vbits_len]
      omega
    · rename_i h2
      rw [if_neg h2] at h
      cases h
  · split
    · rename_i h1 h2
      rw [if_neg h1, if_pos h2] at h
      unfold putG at h ⊢
      split
      · refine ⟨fmt_good ⟨by simp, by simp⟩ (.inr (pay_last _)), ?_⟩
        show (pk (gbits x.gc x.gb x.gt ++ [true])).length ≤ _
        rw [pk_len]
        simp [gbits, vbits_len]
      · rename_i h3
        rw [if_neg h3] at h
        cases h
    · split
      · rename_i h1 h2 h3
        rw [if_neg h1, if_neg h2, if_pos h3] at h
        unfold putH at h ⊢
        split
        · refine ⟨fmt_good ⟨by simp, by simp⟩ (.inr (pay_last _)), ?_⟩
          show (pk (hbits x.p ++ [true])).length ≤ _
          rw [pk_len]
          simp [hbits, vbits_len]
        · rename_i h4
          rw [if_neg h4] at h
          cases h
      · exact ⟨fmt_good (by decide) (.inl rfl), by simp⟩
structure Lt (x : It) : Prop where
  ok : ItOk x
  U : x.U.length ≤ 10000
  us : x.us.length ≤ 10000
  up : ∀ u ∈ x.us, u.2.length ≤ 1000000

set_option maxHeartbeats 8000000 in
set_option maxRecDepth 100000 in
theorem itb_ok (x : It) (H : Heap) (hx : Lt x) : CallOk Tryd.prog 11 [.agg (itc x)] H (rvBV (itB x)) H := by
  have hs := hx.ok.s
  have i1 := itc_cell x
  have i2 := itc_len x hs
  have i3 := itc_0 x
  have i4 := itc_pad x hs
  have i5 := itc_s x hs
  have i6 := itc_g x hs
  have i7 := itc_c x hs
  have i8 := itc_p x hs
  generalize hr : itB x = r
  unfold itB at hr
  refine CallOk.body (F0 := [(0, .agg (itc x))]) Tryd.func11 rfl Tryd.ntmps11 Tryd.results11 rfl (by kernel_rfl) rfl ?_
  (repeat refine PW.seq ?_); refine PW.rg rfl fun K hK => ?_; simp (maxSteps := 3000000) (disch := omega) only [go_sem, ↓reduceIte, reduceCtorEq, pappend, plen, i1]; refine hK _ _ ?_; clear hK K
  cases hok : okI x with
  | false =>
    rw [hok, if_neg (by decide)] at hr
    suffices hrest : PW Tryd.prog _ _ [(24, .bool true)] (H ++ [⟨39, 0, itc x⟩]) _ by
      unfold okI at hok
      (repeat refine PW.seq ?_); refine PW.rg rfl fun K hK => ?_; simp (maxSteps := 3000000) (disch := omega) only [go_sem, ↓reduceIte, reduceCtorEq, pappend, plen, i3, i4]; (repeat' ((first | refine VO_cond ?_ ?_ | refine VOd_cond ?_ ?_ | refine VOg_cond ?_ ?_ | refine VOh_cond ?_ ?_ | refine VOi_cond ?_ ?_ | refine And.intro ?_ ?_) <;> intro h <;> (try simp only [Bool.not_eq_true', Bool.not_eq_false', decide_eq_true_eq, decide_eq_false_iff_not] at h) <;> simp (maxSteps := 3000000) (disch := omega) only [go_sem, ↓reduceIte, reduceCtorEq, pappend, plen, i3, i4, h]))
      all_goals (refine hK _ _ ?_; clear hK K; refine PW.at [24] hrest ?_ rfl; simp [kp, slot, Nat.beq]; try (simp only [Bool.and_eq_false_iff, decide_eq_false_iff_not] at hok; omega))
    (repeat refine PW.seq ?_); refine PW.cond (t := _) rfl (fun h => ?_) (fun h => ?_)
    rotate_left
    · cases h
    (repeat refine PW.seq ?_); refine PW.rg rfl fun K hK => ?_; simp (maxSteps := 3000000) (disch := omega) only [go_sem, ↓reduceIte, reduceCtorEq, pappend, plen]; refine hK _ _ ?_; clear hK K
    refine PW.ret ⟨.tup [.slice [] 0 true, .int .i64 1], by simp (maxSteps := 3000000) (disch := omega) only [go_sem, ↓reduceIte, reduceCtorEq, pappend, plen, presults, presult, List.mapM_cons, List.mapM_nil, Option.pure_def, Option.bind_eq_bind, Option.bind_some, Array.toList], ?_⟩
    rw [← hr]
    exact Fin.base (Fz.tupC ⟨Fz.sliceC trivial (fun e => by cases e), .id (.int _ _), trivial⟩)
  | true =>
    rw [hok, if_pos rfl] at hr
    unfold okI at hok
    simp only [Bool.and_eq_true, decide_eq_true_eq] at hok
    obtain ⟨k1, k2, k3, k4⟩ := hok
    have d1 : decide (x.k < 1) = false := decide_eq_false (by omega)
    have d2 : decide (4 < x.k) = false := decide_eq_false (by omega)
    have d3 : decide (x.pad < 0) = false := decide_eq_false (by omega)
    have d4 : decide (1048576 < x.pad) = false := decide_eq_false (by omega)
    (repeat refine PW.seq ?_); refine PW.rg rfl fun K hK => ?_; simp (maxSteps := 3000000) (disch := omega) only [go_sem, ↓reduceIte, reduceCtorEq, pappend, plen, i3, i4, d1, d2, d3, d4]; refine hK _ _ ?_; clear hK K
    (repeat refine PW.seq ?_); refine PW.cond (t := _) rfl (fun h => ?_) (fun h => ?_)
    · cases h
    refine PW.skip ?_
    (repeat refine PW.seq ?_); refine PW.rg rfl fun K hK => ?_; simp (maxSteps := 3000000) (disch := omega) only [go_sem, ↓reduceIte, reduceCtorEq, pappend, plen]; refine hK _ _ ?_; clear hK K
    (repeat refine PW.seq ?_); refine PW.rg rfl fun K hK => ?_; simp (maxSteps := 3000000) (disch := omega) only [go_sem, ↓reduceIte, reduceCtorEq, pappend, plen]; refine hK _ _ ?_; clear hK K
    (repeat refine PW.seq ?_); refine PW.rg rfl fun K hK => ?_; simp (maxSteps := 3000000) (disch := omega) only [go_sem, ↓reduceIte, reduceCtorEq, pappend, plen, i3]; refine hK _ _ ?_; clear hK K
    suffices hrest : ∀ f, PW Tryd.prog _ _ [(1, .ptr H.length 0 0), (4, .ptr (H.length + 1) 0 0), (5, .int .i64 (hdU x).2.2)] (H ++ [⟨39, 0, itc x⟩, ⟨50, 0, [.int .i64 (hdU x).1, .slice (bs (hdU x).2.1) (hdU x).2.1.length f]⟩]) _ by
      have hk : x.k = 1 ∨ x.k = 2 ∨ x.k = 3 ∨ x.k = 4 := by omega
      rcases hk with hk | hk | hk | hk
      · have hu : hdU x = putS x.s := by unfold hdU; rw [if_pos hk]
        rw [hu] at hrest
        have po := fun K => puts_ok x.s K hs
        have e1 : (x.k == 1) = true := by simp [hk]
        (repeat refine PW.seq ?_); refine PW.block ?_
        (repeat refine PW.seq ?_); refine PW.rg rfl fun K hK => ?_; simp (maxSteps := 3000000) (disch := omega) only [go_sem, ↓reduceIte, reduceCtorEq, pappend, plen, e1]; refine hK _ _ ?_; clear hK K
        (repeat refine PW.seq ?_); refine PW.cond (t := _) rfl (fun h => ?_) (fun h => ?_)
        rotate_left
        · cases h
        (repeat refine PW.seq ?_); refine PW.rg rfl fun K hK => ?_; simp (maxSteps := 3000000) (disch := omega) only [go_sem, ↓reduceIte, reduceCtorEq, pappend, plen, i2, i5]; refine VCx.call (po _) rfl ?_; simp (maxSteps := 3000000) (disch := omega) only [go_sem, ↓reduceIte, reduceCtorEq, pappend, plen, uv]; refine hK _ _ ?_; clear hK K
        exact PW.at [1, 4, 5] (hrest false) rfl rfl
      · have hu : hdU x = putG x.gc x.gb x.gt := by unfold hdU; rw [if_neg (by omega), if_pos hk]
        rw [hu] at hrest
        have po := fun K => putg_ok x.gc x.gb x.gt K hx.ok.gt
        have e1 : (x.k == 1) = false := by simp [hk]
        have e2 : (x.k == 2) = true := by simp [hk]
        (repeat refine PW.seq ?_); refine PW.block ?_
        (repeat refine PW.seq ?_); refine PW.rg rfl fun K hK => ?_; simp (maxSteps := 3000000) (disch := omega) only [go_sem, ↓reduceIte, reduceCtorEq, pappend, plen, e1]; refine hK _ _ ?_; clear hK K
        (repeat refine PW.seq ?_); refine PW.cond (t := _) rfl (fun h => ?_) (fun h => ?_)
        · cases h
        (repeat refine PW.seq ?_); refine PW.rg rfl fun K hK => ?_; simp (maxSteps := 3000000) (disch := omega) only [go_sem, ↓reduceIte, reduceCtorEq, pappend, plen, e2]; refine hK _ _ ?_; clear hK K
        (repeat refine PW.seq ?_); refine PW.cond (t := _) rfl (fun h => ?_) (fun h => ?_)
        rotate_left
        · cases h
        (repeat refine PW.seq ?_); refine PW.rg rfl fun K hK => ?_; simp (maxSteps := 3000000) (disch := omega) only [go_sem, ↓reduceIte, reduceCtorEq, pappend, plen, i2, i6]; refine VCx.call (po _) rfl ?_; simp (maxSteps := 3000000) (disch := omega) only [go_sem, ↓reduceIte, reduceCtorEq, pappend, plen, uv]; refine hK _ _ ?_; clear hK K
        exact PW.at [1, 4, 5] (hrest false) rfl rfl
      · have hu : hdU x = putH x.p := by unfold hdU; rw [if_neg (by omega), if_neg (by omega), if_pos hk]
        rw [hu] at hrest
        have po := fun K => putH_ok x.p K
        have e1 : (x.k == 1) = false := by simp [hk]
        have e2 : (x.k == 2) = false := by simp [hk]
        have e3 : (x.k == 3) = true := by simp [hk]
        (repeat refine PW.seq ?_); refine PW.block ?_
        (repeat refine PW.seq ?_); refine PW.rg rfl fun K hK => ?_; simp (maxSteps := 3000000) (disch := omega) only [go_sem, ↓reduceIte, reduceCtorEq, pappend, plen, e1]; refine hK _ _ ?_; clear hK K
        (repeat refine PW.seq ?_); refine PW.cond (t := _) rfl (fun h => ?_) (fun h => ?_)
        · cases h
        (repeat refine PW.seq ?_); refine PW.rg rfl fun K hK => ?_; simp (maxSteps := 3000000) (disch := omega) only [go_sem, ↓reduceIte, reduceCtorEq, pappend, plen, e2]; refine hK _ _ ?_; clear hK K
        (repeat refine PW.seq ?_); refine PW.cond (t := _) rfl (fun h => ?_) (fun h => ?_)
        · cases h
        (repeat refine PW.seq ?_); refine PW.rg rfl fun K hK => ?_; simp (maxSteps := 3000000) (disch := omega) only [go_sem, ↓reduceIte, reduceCtorEq, pappend, plen, e3]; refine hK _ _ ?_; clear hK K
        (repeat refine PW.seq ?_); refine PW.cond (t := _) rfl (fun h => ?_) (fun h => ?_)
        rotate_left
        · cases h
        (repeat refine PW.seq ?_); refine PW.rg rfl fun K hK => ?_; simp (maxSteps := 3000000) (disch := omega) only [go_sem, ↓reduceIte, reduceCtorEq, pappend, plen, i2, i8]; refine VCx.call (po _) rfl ?_; simp (maxSteps := 3000000) (disch := omega) only [go_sem, ↓reduceIte, reduceCtorEq, pappend, plen, uv]; refine hK _ _ ?_; clear hK K
        exact PW.at [1, 4, 5] (hrest false) rfl rfl
      · have hu : hdU x = (183, [], 0) := by unfold hdU; rw [if_neg (by omega), if_neg (by omega), if_neg (by omega)]
        rw [hu] at hrest
        have e1 : (x.k == 1) = false := by simp [hk]
        have e2 : (x.k == 2) = false := by simp [hk]
        have e3 : (x.k == 3) = false := by simp [hk]
        have e4 : (x.k == 4) = true := by simp [hk]
        (repeat refine PW.seq ?_); refine PW.block ?_
        (repeat refine PW.seq ?_); refine PW.rg rfl fun K hK => ?_; simp (maxSteps := 3000000) (disch := omega) only [go_sem, ↓reduceIte, reduceCtorEq, pappend, plen, e1]; refine hK _ _ ?_; clear hK K
        (repeat refine PW.seq ?_); refine PW.cond (t := _) rfl (fun h => ?_) (fun h => ?_)
        · cases h
        (repeat refine PW.seq ?_); refine PW.rg rfl fun K hK => ?_; simp (maxSteps := 3000000) (disch := omega) only [go_sem, ↓reduceIte, reduceCtorEq, pappend, plen, e2]; refine hK _ _ ?_; clear hK K
        (repeat refine PW.seq ?_); refine PW.cond (t := _) rfl (fun h => ?_) (fun h => ?_)
        · cases h
        (repeat refine PW.seq ?_); refine PW.rg rfl fun K hK => ?_; simp (maxSteps := 3000000) (disch := omega) only [go_sem, ↓reduceIte, reduceCtorEq, pappend, plen, e3]; refine hK _ _ ?_; clear hK K
        (repeat refine PW.seq ?_); refine PW.cond (t := _) rfl (fun h => ?_) (fun h => ?_)
        · cases h
        (repeat refine PW.seq ?_); refine PW.rg rfl fun K hK => ?_; simp (maxSteps := 3000000) (disch := omega) only [go_sem, ↓reduceIte, reduceCtorEq, pappend, plen, e4]; refine hK _ _ ?_; clear hK K
        (repeat refine PW.seq ?_); refine PW.cond (t := _) rfl (fun h => ?_) (fun h => ?_)
        rotate_left
        · cases h
        (repeat refine PW.seq ?_); refine PW.rg rfl fun K hK => ?_; simp (maxSteps := 3000000) (disch := omega) only [go_sem, ↓reduceIte, reduceCtorEq, pappend, plen]; refine hK _ _ ?_; clear hK K
        exact PW.at [1, 4, 5] (hrest true) rfl rfl
    intro f
    by_cases he : (hdU x).2.2 = 0
    rotate_left
    · rw [if_neg he] at hr
      have be : ((hdU x).2.2 != 0) = true := by simp [he]
      (repeat refine PW.seq ?_); refine PW.rg rfl fun K hK => ?_; simp (maxSteps := 3000000) (disch := omega) only [go_sem, ↓reduceIte, reduceCtorEq, pappend, plen, be]; refine hK _ _ ?_; clear hK K
      (repeat refine PW.seq ?_); refine PW.cond (t := _) rfl (fun h => ?_) (fun h => ?_)
      rotate_left
      · cases h
      (repeat refine PW.seq ?_); refine PW.rg rfl fun K hK => ?_; simp (maxSteps := 3000000) (disch := omega) only [go_sem, ↓reduceIte, reduceCtorEq, pappend, plen]; refine hK _ _ ?_; clear hK K
      refine PW.ret ⟨.tup [.slice [] 0 true, .int .i64 (hdU x).2.2], by simp (maxSteps := 3000000) (disch := omega) only [go_sem, ↓reduceIte, reduceCtorEq, pappend, plen, presults, presult, List.mapM_cons, List.mapM_nil, Option.pure_def, Option.bind_eq_bind, Option.bind_some, Array.toList], ?_⟩
      rw [← hr]
      exact Fin.base (Fz.tupC ⟨Fz.sliceC trivial (fun e => by cases e), .id (.int _ _), trivial⟩)
    rw [if_pos he] at hr
    obtain ⟨hf, hl⟩ := hdU_fmt he
    have be : ((hdU x).2.2 != 0) = false := by simp [he]
    have fm := fun K => format_m (hdU x).1 (hdU x).2.1 f K (by omega) hf
    have hbl : (hdB x).length ≤ 1000 := by have := fmt_bd (hdU x).1 (hdU x).2.1; unfold hdB; omega
    have hvl : (hdV x).2 ≤ (hdV x).1.length := by
      unfold hdV hdB
      rw [(fmt_l hf).1]
      have := fv_le (escR (hdU x).2.1).1
      simp
      omega
    (repeat refine PW.seq ?_); refine PW.rg rfl fun K hK => ?_; simp (maxSteps := 3000000) (disch := omega) only [go_sem, ↓reduceIte, reduceCtorEq, pappend, plen, be]; refine hK _ _ ?_; clear hK K
    (repeat refine PW.seq ?_); refine PW.cond (t := _) rfl (fun h => ?_) (fun h => ?_)
    · cases h
    refine PW.skip ?_
    (repeat refine PW.seq ?_); refine PW.rg rfl fun K hK => ?_; simp (maxSteps := 3000000) (disch := omega) only [go_sem, ↓reduceIte, reduceCtorEq, pappend, plen]; refine VCx.call (fm _) rfl ?_; simp (maxSteps := 3000000) (disch := omega) only [go_sem, ↓reduceIte, reduceCtorEq, pappend, plen]; refine hK _ _ ?_; clear hK K
    (repeat refine PW.seq ?_); refine PW.rg rfl fun K hK => ?_; simp (maxSteps := 3000000) (disch := omega) only [go_sem, ↓reduceIte, reduceCtorEq, pappend, plen]; refine hK _ _ ?_; clear hK K
    (repeat refine PW.seq ?_); refine PW.cond (t := _) rfl (fun h => ?_) (fun h => ?_)
    · cases h
    refine PW.skip ?_
    have hf1 : (fmtR (hdU x).1 (hdU x).2.1).1 = hdB x := rfl
    rw [hf1]
    obtain ⟨M, hM⟩ : ∃ M, M = H ++ [⟨39, 0, itc x⟩, ⟨50, 0, [.int .i64 (hdU x).1, .slice (bs (hdU x).2.1) (hdU x).2.1.length f]⟩, ⟨50, 0, [.int .i64 (hdU x).1, .slice (bs (hdU x).2.1) (hdU x).2.1.length f]⟩, bB (hdV x)] := ⟨_, rfl⟩
    have m0 : M[H.length]? = some ⟨39, 0, itc x⟩ := by rw [hM]; exact hp0 _ _ _
    have m3 : M[H.length + 3]? = some (bB (hdV x)) := by rw [hM]; exact hp3 _ _ _ _ _ _
    refine PW.at [1, 6] (F1 := [(1, .ptr H.length 0 0), (6, bS (H.length + 3) (hdV x))]) (H1 := M) ?_ rfl (by rw [hM]; rfl)
    by_cases hk : x.k = 3
    · rw [if_pos hk] at hr
      have e3 : (x.k == 3) = true := by simp [hk]
      have ap := app_ok (H.length + 3) (hdV x) x.p x.U x.us M m3 hvl (by show (hdB x).length ≤ _; omega) hx.U hx.us hx.up
      have hMs : ∀ y, M.set (H.length + 3) (bB y) = H ++ [⟨39, 0, itc x⟩, ⟨50, 0, [.int .i64 (hdU x).1, .slice (bs (hdU x).2.1) (hdU x).2.1.length f]⟩, ⟨50, 0, [.int .i64 (hdU x).1, .slice (bs (hdU x).2.1) (hdU x).2.1.length f]⟩, bB y] := fun y => by rw [hM, aps]; rfl
      rw [hMs] at ap
      (repeat refine PW.seq ?_); refine PW.rg rfl fun K hK => ?_; simp (maxSteps := 3000000) (disch := omega) only [go_sem, ↓reduceIte, reduceCtorEq, pappend, plen, m0, i3, e3]; refine hK _ _ ?_; clear hK K
      (repeat refine PW.seq ?_); refine PW.cond (t := _) rfl (fun h => ?_) (fun h => ?_)
      rotate_left
      · cases h
      by_cases h0 : (apP (hdV x) x.U x.us).2 = 0
      · rw [if_pos h0] at hr
        unfold rvA at ap
        rw [if_pos h0] at ap
        generalize (apP (hdV x) x.U x.us).1 = y at *
        (repeat refine PW.seq ?_); refine PW.rg rfl fun K hK => ?_; simp (maxSteps := 3000000) (disch := omega) only [go_sem, ↓reduceIte, reduceCtorEq, pappend, plen, m0, i2, i7]; refine VCx.call (ap) rfl ?_; simp (maxSteps := 3000000) (disch := omega) only [go_sem, ↓reduceIte, reduceCtorEq, pappend, plen]; refine hK _ _ ?_; clear hK K
        refine PW.ret ⟨.tup [bS (H.length + 3) y, .int .i64 0], by simp (maxSteps := 3000000) (disch := omega) only [go_sem, ↓reduceIte, reduceCtorEq, pappend, plen, presults, presult, List.mapM_cons, List.mapM_nil, Option.pure_def, Option.bind_eq_bind, Option.bind_some, Array.toList], ?_⟩
        rw [← hr]
        refine Fin.base (Fz.tupC ⟨?_, .id (.int _ _), trivial⟩)
        exact Fz.mslC (e := 5) (xs := bs y.1) (by omega) (hp3 _ _ _ _ _ _) (by rw [length_bs, Nat.mul_one]) (FzC.refl (bs_scoped _ _))
      · rw [if_neg h0] at hr
        unfold rvA at ap
        rw [if_neg h0] at ap
        generalize (apP (hdV x) x.U x.us).2 = ee at *
        (repeat refine PW.seq ?_); refine PW.rg rfl fun K hK => ?_; simp (maxSteps := 3000000) (disch := omega) only [go_sem, ↓reduceIte, reduceCtorEq, pappend, plen, m0, i2, i7]; refine VCx.call (ap) rfl ?_; simp (maxSteps := 3000000) (disch := omega) only [go_sem, ↓reduceIte, reduceCtorEq, pappend, plen]; refine hK _ _ ?_; clear hK K
        refine PW.ret ⟨.tup [.slice [] 0 true, .int .i64 ee], by simp (maxSteps := 3000000) (disch := omega) only [go_sem, ↓reduceIte, reduceCtorEq, pappend, plen, presults, presult, List.mapM_cons, List.mapM_nil, Option.pure_def, Option.bind_eq_bind, Option.bind_some, Array.toList], ?_⟩
        rw [← hr]
        exact Fin.base (Fz.tupC ⟨Fz.sliceC trivial (fun e => by cases e), .id (.int _ _), trivial⟩)
    · rw [if_neg hk] at hr
      have e3 : (x.k == 3) = false := by simp [hk]
      (repeat refine PW.seq ?_); refine PW.rg rfl fun K hK => ?_; simp (maxSteps := 3000000) (disch := omega) only [go_sem, ↓reduceIte, reduceCtorEq, pappend, plen, m0, i3, e3]; refine hK _ _ ?_; clear hK K
      (repeat refine PW.seq ?_); refine PW.cond (t := _) rfl (fun h => ?_) (fun h => ?_)
      · cases h
      refine PW.skip ?_
      (repeat refine PW.seq ?_); refine PW.rg rfl fun K hK => ?_; simp (maxSteps := 3000000) (disch := omega) only [go_sem, ↓reduceIte, reduceCtorEq, pappend, plen]; refine hK _ _ ?_; clear hK K
      refine PW.ret ⟨.tup [bS (H.length + 3) (hdV x), .int .i64 0], by simp (maxSteps := 3000000) (disch := omega) only [go_sem, ↓reduceIte, reduceCtorEq, pappend, plen, presults, presult, List.mapM_cons, List.mapM_nil, Option.pure_def, Option.bind_eq_bind, Option.bind_some, Array.toList], ?_⟩
      rw [← hr, hM]
      refine Fin.base (Fz.tupC ⟨?_, .id (.int _ _), trivial⟩)
      exact Fz.mslC (e := 5) (xs := bs (hdB x)) (by omega) (hp3 _ _ _ _ _ _) (by rw [length_bs, Nat.mul_one]; rfl) (FzC.refl (bs_scoped _ _))

end Go.Proofs.YtbhdollgohgkgaaDoor.Sc

namespace Go.Proofs.YtbhdollgohgkgaaDoor.Sc
set_option linter.all false
set_option linter.unusedVariables false
set_option linter.unusedSimpArgs false
open Pm Ty S3 Go.RowKit

abbrev Un := Int × List UInt8
end Go.Proofs.YtbhdollgohgkgaaDoor.Sc

namespace Go.Proofs.YtbhdollgohgkgaaDoor.Sc
set_option linter.all false
set_option linter.unusedVariables false
set_option linter.unusedSimpArgs false
open Pm Ty S3 Go.RowKit

/-! ### both sides are the same -/
end Go.Proofs.YtbhdollgohgkgaaDoor.Sc

namespace Go.Proofs.YtbhdollgohgkgaaDoor.Sc
set_option linter.all false
set_option linter.unusedVariables false
set_option linter.unusedSimpArgs false
open Pm Ty S3 Go.RowKit

theorem apU_len : ∀ (U : List (List UInt8)) (y : BV), (apU y U).1.1.length ≤ y.1.length + U.length * 600
  | [], y => by simp [apU]
  | u :: r, y => by
    unfold apU
    split
    · simp
    · have h := apU_len r (more y (fU u))
      have hb := fU_bd u
      simp only [more, List.length_append, List.length_cons] at h ⊢
      omega
theorem apS_len : ∀ (us : List Un) (y : BV), (∀ u ∈ us, u.2.length ≤ 1000000) → (apS y us).1.1.length ≤ y.1.length + us.length * 2000004
  | [], y, _ => by simp [apS]
  | u :: r, y, hp => by
    unfold apS
    split
    · split
      · have h := apS_len r (more y (fmtR u.1 u.2).1) (fun w hw => hp w (List.mem_cons_of_mem _ hw))
        have hb := fmt_bd u.1 u.2
        have hu := hp u (List.mem_cons_self ..)
        simp only [more, List.length_append, List.length_cons] at h ⊢
        omega
      · simp
    · simp
theorem itB_len {x : It} (hx : Lt x) : (itB x).1.length ≤ 30000000000 := by
  have hU := hx.U
  have hus := hx.us
  unfold itB
  split
  · split
    · rename_i he
      have hb : (hdB x).length ≤ 1000 := by
        obtain ⟨hf, hl⟩ := hdU_fmt he
        have := fmt_bd (hdU x).1 (hdU x).2.1; unfold hdB; omega
      split
      · split
        · have h1 := apU_len x.U (hdV x)
          have h2 := apS_len x.us (apU (hdV x) x.U).1 hx.up
          have hv : (hdV x).1.length ≤ 1000 := hb
          unfold apP
          split
          · show (apS (apU (hdV x) x.U).1 x.us).1.1.length ≤ _
            omega
          · show (apU (hdV x) x.U).1.1.length ≤ _
            omega
        · simp
      · show (hdB x).length ≤ _
        omega
    · simp
  · simp
theorem itB_pad {x : It} (h : (itB x).2 = 0) : 0 ≤ x.pad ∧ x.pad ≤ 1048576 ∧ 4 ≤ (itB x).1.length := by
  unfold itB at h ⊢
  cases hok : okI x with
  | false => rw [hok, if_neg (by decide)] at h; cases h
  | true =>
    rw [hok, if_pos rfl] at h
    unfold okI at hok
    simp only [Bool.and_eq_true, decide_eq_true_eq] at hok
    refine ⟨hok.2.2.1, hok.2.2.2, ?_⟩
    rw [if_pos rfl]
    by_cases he : (hdU x).2.2 = 0
    rotate_left
    · rw [if_neg he] at h
      exact absurd h he
    rw [if_pos he] at h ⊢
    have hb : 4 ≤ (hdB x).length := fmt_pos (hdU_fmt he).1
    by_cases hk : x.k = 3
    rotate_left
    · rw [if_neg hk]; exact hb
    rw [if_pos hk] at h ⊢
    by_cases h0 : (apP (hdV x) x.U x.us).2 = 0
    rotate_left
    · rw [if_neg h0] at h
      exact absurd h h0
    rw [if_pos h0]
    have mU : ∀ (U : List (List UInt8)) (y : BV), y.1.length ≤ (apU y U).1.1.length := by
      intro U
      induction U with
      | nil => intro y; exact Nat.le_refl _
      | cons u r ih =>
        intro y
        unfold apU
        split
        · exact Nat.le_refl _
        · refine Nat.le_trans ?_ (ih _)
          simp [more]
    have mS : ∀ (us : List Un) (y : BV), y.1.length ≤ (apS y us).1.1.length := by
      intro us
      induction us with
      | nil => intro y; exact Nat.le_refl _
      | cons u r ih =>
        intro y
        unfold apS
        split
        · split
          · refine Nat.le_trans ?_ (ih _)
            simp [more]
          · exact Nat.le_refl _
        · exact Nat.le_refl _
    have h1 := mU x.U (hdV x)
    have h2 := mS x.us (apU (hdV x) x.U).1
    have hv : (hdV x).1.length = (hdB x).length := rfl
    unfold apP
    split
    · show 4 ≤ (apS (apU (hdV x) x.U).1 x.us).1.1.length
      omega
    · show 4 ≤ (apU (hdV x) x.U).1.1.length
      omega

/-! ### the whole stream -/
def pce (x : It) : List UInt8 := (itB x).1 ++ List.replicate x.pad.toNat 0
def byS (l : List It) : List UInt8 := l.flatMap pce
def erL : List It → Int
  | [] => 0
  | x :: r => if (itB x).2 = 0 then erL r else (itB x).2
def piL : List It → Nat
  | [] => 0
  | x :: r => (if x.k = 3 then 1 else 0) + piL r
def fmtS (l : List It) : List UInt8 × Int := if erL l = 0 then (if 256 < piL l ∨ 1048576 < (byS l).length then ([], 5) else (byS l, 0)) else ([], erL l)
theorem byS_snoc (l : List It) (x : It) : byS (l ++ [x]) = byS l ++ pce x := by simp [byS]
theorem piL_snoc : ∀ (l : List It) (x : It), piL (l ++ [x]) = piL l + (if x.k = 3 then 1 else 0)
  | [], x => by simp [piL]
  | y :: r, x => by
    rw [List.cons_append, piL, piL, piL_snoc r x]
    omega
theorem byS_take {l : List It} {k : Nat} (h : k < l.length) : byS (l.take (k + 1)) = byS (l.take k) ++ pce l[k] := by
  rw [List.take_succ_eq_append_getElem h, byS_snoc]
theorem piL_take {l : List It} {k : Nat} (h : k < l.length) : piL (l.take (k + 1)) = piL (l.take k) + (if l[k].k = 3 then 1 else 0) := by
  rw [List.take_succ_eq_append_getElem h, piL_snoc]
theorem reps_bs (n : Nat) : reps n [.int .u8 0] = bs (List.replicate n 0) := by
  rw [bs_rep]
  induction n with
  | zero => rfl
  | succ n ih => rw [List.replicate_succ, ← ih]; simp [reps, List.replicate_succ]
structure Lts (l : List It) : Prop where
  n : l.length ≤ 1000000
  i : ∀ x ∈ l, Lt x
theorem Lts.s {l : List It} (h : Lts l) : ∀ x ∈ l, SqOk x.s := fun x hx => (h.i x hx).ok.s
theorem pce_len {x : It} (hx : Lt x) (h : (itB x).2 = 0) : (pce x).length = (itB x).1.length + x.pad.toNat ∧ (pce x).length ≤ 30001048576 := by
  have h1 := itB_len hx
  have h2 := itB_pad h
  unfold pce
  rw [List.length_append, List.length_replicate]
  omega

set_option maxHeartbeats 8000000 in
set_option maxRecDepth 100000 in
theorem fmts_ok (l : List It) (f : Bool) (H : Heap) (hl : Lts l) : CallOk Tryd.prog 7 [.slice (itL l) l.length f] H (rvBV (fmtS l)) H := by
  have hn := hl.n
  have ln := itL_len l hl.s
  have fe : ∀ (e : Int) (K : Heap), Fin H (rvBV ([], e)) H (.tup [.slice [] 0 true, .int .i64 e]) (H ++ K) := fun e K =>
    Fin.base (Fz.tupC ⟨Fz.sliceC trivial (fun e => by cases e), .id (.int _ _), trivial⟩)
  generalize hr : fmtS l = r
  unfold fmtS at hr
  refine CallOk.body (F0 := [(0, .slice (itL l) l.length f)]) Tryd.func7 rfl Tryd.ntmps7 Tryd.results7 rfl (by kernel_rfl) rfl ?_
  (repeat refine PW.seq ?_); refine PW.rg rfl fun K hK => ?_; simp (maxSteps := 3000000) (disch := omega) only [go_sem, ↓reduceIte, reduceCtorEq, pappend, plen]; refine hK _ _ ?_; clear hK K
  (repeat refine PW.seq ?_); refine PW.rg rfl fun K hK => ?_; simp (maxSteps := 3000000) (disch := omega) only [go_sem, ↓reduceIte, reduceCtorEq, pappend, plen]; refine hK _ _ ?_; clear hK K
  refine PW.view (Vs.ghost 4 5 1 rfl) ?_
  (repeat refine PW.seq ?_); refine PW.rg rfl fun K hK => ?_; simp (maxSteps := 3000000) (disch := omega) only [go_sem, ↓reduceIte, reduceCtorEq, pappend, plen]; refine hK _ _ ?_; clear hK K
  (repeat refine PW.seq ?_); refine PW.rg rfl fun K hK => ?_; simp (maxSteps := 3000000) (disch := omega) only [go_sem, ↓reduceIte, reduceCtorEq, pappend, plen]; refine hK _ _ ?_; clear hK K
  (repeat refine PW.seq ?_); refine PW.block (PW.loop ?_)
  suffices hloop : ∀ (k : Nat) (O : List UInt8), k ≤ l.length → erL l = erL (l.drop k) → (byS (l.take k)).length ≤ k * 30001048576 → O.length ≤ 1048576 → ((byS (l.take k)).length ≤ 1048576 → O = byS (l.take k)) → piL (l.take k) ≤ k →
      PL Tryd.prog _ _ [(0, .slice (itL l) l.length f), (4, .msl H.length O.length 0 O.length 1 true), (5, .int .i64 (piL (l.take k) : Int)), (6, .int .i64 ((byS (l.take k)).length : Int)), (11, .int .i64 (l.length : Int)), (12, .int .i64 (k : Int))] (H ++ [⟨5, O.length, bs O⟩]) _ by
    exact PL.at [0, 4, 5, 6, 11, 12] (hloop 0 [] (by omega) rfl (by simp [byS]) (by simp) (fun _ => by simp [byS]) (by simp [piL])) rfl rfl
  intro k O hk he hS hO hOb hP
  induction hd : l.length - k using Nat.strongRecOn generalizing k O with
  | _ d ih =>
    have bO := length_bs O
    refine PL.round ?_; (repeat refine PW.seq ?_); refine PW.rg rfl fun K hK => ?_; simp (maxSteps := 3000000) (disch := omega) only [go_sem, ↓reduceIte, reduceCtorEq, pappend, plen]; refine hK _ _ ?_; clear hK K
    (repeat refine PW.seq ?_); refine PW.cond (t := _) rfl (fun h => ?_) (fun h => ?_)
    · have hkl : k < l.length := by have := of_decide_eq_true h; omega
      have ia := itL_at l hl.s k hkl
      have i0 := itL_get l hl.s k 0 hkl (by omega)
      have ip := itL_get l hl.s k 147 hkl (by omega)
      have hx := hl.i l[k] (List.getElem_mem hkl)
      rw [itc_0, Nat.add_zero] at i0
      rw [itc_pad _ hx.ok.s] at ip
      have hbt := byS_take hkl
      have hpt := piL_take hkl
      rw [List.drop_eq_getElem_cons hkl, erL] at he
      have hnext := fun O h1 h2 h3 h4 h5 => ih (l.length - (k + 1)) (by omega) (k + 1) O (by omega) h1 h2 h3 h4 h5 rfl
      generalize l[k] = x at *
      have ib := fun K => itb_ok x K hx
      unfold rvBV at ib
      refine PW.skip ?_; (repeat refine PW.seq ?_); refine PW.block ?_
      (repeat refine PW.seq ?_); refine PW.rg rfl fun K hK => ?_; simp (maxSteps := 3000000) (disch := omega) only [go_sem, ↓reduceIte, reduceCtorEq, pappend, plen]; refine hK _ _ ?_; clear hK K
      by_cases h0 : (itB x).2 = 0
      rotate_left
      · rw [if_neg h0] at he
        rw [if_neg (by rw [he]; exact h0), he] at hr
        have b0 : ((itB x).2 != 0) = true := by simp [h0]
        (repeat refine PW.seq ?_); refine PW.rg rfl fun K hK => ?_; simp (maxSteps := 3000000) (disch := omega) only [go_sem, ↓reduceIte, reduceCtorEq, pappend, plen, ia, ln]; refine VCx.call (ib _) rfl ?_; simp (maxSteps := 3000000) (disch := omega) only [go_sem, ↓reduceIte, reduceCtorEq, pappend, plen]; refine hK _ _ ?_; clear hK K
        (repeat refine PW.seq ?_); refine PW.rg rfl fun K hK => ?_; simp (maxSteps := 3000000) (disch := omega) only [go_sem, ↓reduceIte, reduceCtorEq, pappend, plen, b0]; refine hK _ _ ?_; clear hK K
        (repeat refine PW.seq ?_); refine PW.cond (t := _) rfl (fun h => ?_) (fun h => ?_)
        rotate_left
        · cases h
        (repeat refine PW.seq ?_); refine PW.rg rfl fun K hK => ?_; simp (maxSteps := 3000000) (disch := omega) only [go_sem, ↓reduceIte, reduceCtorEq, pappend, plen]; refine hK _ _ ?_; clear hK K
        refine PW.ret ⟨.tup [.slice [] 0 true, .int .i64 (itB x).2], by simp (maxSteps := 3000000) (disch := omega) only [go_sem, ↓reduceIte, reduceCtorEq, pappend, plen, presults, presult, List.mapM_cons, List.mapM_nil, Option.pure_def, Option.bind_eq_bind, Option.bind_some, Array.toList], ?_⟩
        rw [← hr]
        exact fe _ _
      rw [if_pos h0] at he
      have b0 : ((itB x).2 != 0) = false := by simp [h0]
      obtain ⟨pl1, pl2⟩ := pce_len hx h0
      obtain ⟨pp1, pp2, pp3⟩ := itB_pad h0
      have hbl : (byS (l.take (k + 1))).length = (byS (l.take k)).length + (pce x).length := by rw [hbt, List.length_append]
      have hpce : pce x = (itB x).1 ++ List.replicate x.pad.toNat 0 := rfl
      (repeat refine PW.seq ?_); refine PW.rg rfl fun K hK => ?_; simp (maxSteps := 3000000) (disch := omega) only [go_sem, ↓reduceIte, reduceCtorEq, pappend, plen, ia, ln]; refine VCx.call (ib _) rfl ?_; simp (maxSteps := 3000000) (disch := omega) only [go_sem, ↓reduceIte, reduceCtorEq, pappend, plen]; refine hK _ _ ?_; clear hK K
      (repeat refine PW.seq ?_); refine PW.rg rfl fun K hK => ?_; simp (maxSteps := 3000000) (disch := omega) only [go_sem, ↓reduceIte, reduceCtorEq, pappend, plen, b0]; refine hK _ _ ?_; clear hK K
      (repeat refine PW.seq ?_); refine PW.cond (t := _) rfl (fun h => ?_) (fun h => ?_)
      · cases h
      refine PW.skip ?_
      obtain ⟨N, hN⟩ : ∃ N : Nat, x.pad = (N : Int) := ⟨x.pad.toNat, by omega⟩
      rw [hN] at ip hpce pl1 pp1 pp2
      rw [Int.toNat_natCast] at hpce pl1
      generalize hbb : (itB x).1 = b at *
      generalize hSS : (byS (l.take k)).length = S at *
      generalize hPP : piL (l.take k) = P at *
      refine PW.to [0, 4, 5, 6, 8, 7, 11, 12] [(0, .slice (itL l) l.length f), (4, .msl H.length O.length 0 O.length 1 true), (5, .int .i64 (piL (l.take (k + 1)) : Int)), (6, .int .i64 (S : Int)), (8, .slice (bs b) b.length false), (7, .int .i64 (k : Int)), (11, .int .i64 (l.length : Int)), (12, .int .i64 (k : Int))] (H ++ [⟨5, O.length, bs O⟩]) ?_ ?_
      · by_cases hk3 : x.k = 3
        · have e3 : (x.k == 3) = true := by simp [hk3]
          rw [if_pos hk3] at hpt
          (repeat refine PW.seq ?_); refine PW.rg rfl fun K hK => ?_; simp (maxSteps := 3000000) (disch := omega) only [go_sem, ↓reduceIte, reduceCtorEq, pappend, plen, ln, i0, e3]; refine hK _ _ ?_; clear hK K
          (repeat refine PW.seq ?_); refine PW.cond (t := _) rfl (fun h => ?_) (fun h => ?_)
          rotate_left
          · cases h
          (repeat refine PW.seq ?_); refine PW.rg rfl fun K hK => ?_; simp (maxSteps := 3000000) (disch := omega) only [go_sem, ↓reduceIte, reduceCtorEq, pappend, plen]; refine hK _ _ ?_; clear hK K
          refine ⟨?_, rfl⟩
          rw [hpt]; rfl
        · have e3 : (x.k == 3) = false := by simp [hk3]
          rw [if_neg hk3] at hpt
          (repeat refine PW.seq ?_); refine PW.rg rfl fun K hK => ?_; simp (maxSteps := 3000000) (disch := omega) only [go_sem, ↓reduceIte, reduceCtorEq, pappend, plen, ln, i0, e3]; refine hK _ _ ?_; clear hK K
          (repeat refine PW.seq ?_); refine PW.cond (t := _) rfl (fun h => ?_) (fun h => ?_)
          · cases h
          refine PW.skip ⟨?_, rfl⟩
          rw [hpt]; rfl
      · (repeat refine PW.seq ?_); refine PW.rg rfl fun K hK => ?_; simp (maxSteps := 3000000) (disch := omega) only [go_sem, ↓reduceIte, reduceCtorEq, pappend, plen, ln, ip]; refine hK _ _ ?_; clear hK K
        have hS2 : (byS (l.take (k + 1))).length = S + (b.length + N) := by rw [hbl, pl1]
        have eS : (S : Int) + ((b.length : Int) + (N : Int)) = ((byS (l.take (k + 1))).length : Int) := by rw [hS2]; omega
        have hS3 : (byS (l.take (k + 1))).length ≤ (k + 1) * 30001048576 := by rw [hS2, Nat.add_mul]; omega
        have hP2 : piL (l.take (k + 1)) ≤ k + 1 := by rw [hpt]; split <;> omega
        rw [eS]
        generalize (byS (l.take (k + 1))).length = S' at *
        (repeat refine PW.seq ?_); refine PW.rg rfl fun K hK => ?_; simp (maxSteps := 3000000) (disch := omega) only [go_sem, ↓reduceIte, reduceCtorEq, pappend, plen]; refine hK _ _ ?_; clear hK K
        by_cases hM : S' ≤ 1048576
        · have dM : decide ((S' : Int) ≤ 1048576) = true := decide_eq_true (by omega)
          have hOe := hOb (by omega)
          have hOl : O.length = S := by rw [hOe]; exact hSS
          (repeat refine PW.seq ?_); refine PW.cond (t := _) rfl (fun h => ?_) (fun h => ?_)
          rotate_left
          · rw [dM] at h; cases h
          have be := length_bs b
          have te : List.take b.length (bs b) = bs b := List.take_of_length_le (by omega)
          (repeat refine PW.seq ?_); refine PW.rg rfl fun K hK => ?_; simp (maxSteps := 3000000) (disch := omega) only [go_sem, ↓reduceIte, reduceCtorEq, pappend, plen, te, be, bO, List.length_append]; refine hK _ _ ?_; clear hK K
          have hO2 : O ++ pce x = byS (l.take (k + 1)) := by rw [hbt, hOe]
          have hO3 : (O ++ pce x).length = S' := by rw [List.length_append, pl1]; omega
          have hcel : bs (O ++ pce x) = bs O ++ (bs b ++ reps N [.int .u8 0]) := by rw [hpce, bs_append, bs_append, reps_bs]
          have hfin := hnext (O ++ pce x) he hS3 (by omega) (fun _ => hO2) hP2
          rw [hO3, hcel] at hfin
          have eO : O.length + (b.length + N) = S' := by omega
          by_cases hN0 : N = 0
          · subst hN0
            (repeat refine PW.seq ?_); refine PW.rg rfl fun K hK => ?_; simp (maxSteps := 3000000) (disch := omega) only [go_sem, ↓reduceIte, reduceCtorEq, pappend, plen, ln, ip, be, bO, List.length_append]; refine hK _ _ ?_; clear hK K
            (repeat refine PW.seq ?_); refine PW.rg rfl fun K hK => ?_; simp (maxSteps := 3000000) (disch := omega) only [go_sem, ↓reduceIte, reduceCtorEq, pappend, plen]; refine hK _ _ ?_; clear hK K
            refine PL.at [0, 4, 5, 6, 11, 12] hfin ?_ ?_
            · rw [← eO]; rfl
            · rw [← eO]; simp [reps]
          · have rl : (List.replicate N [PV.int .u8 0]).flatten.length = N := by simp
            (repeat refine PW.seq ?_); refine PW.rg rfl fun K hK => ?_; simp (maxSteps := 3000000) (disch := omega) only [go_sem, ↓reduceIte, reduceCtorEq, pappend, plen, ln, ip, be, bO, List.length_append, hN0, rl]; refine hK _ _ ?_; clear hK K
            (repeat refine PW.seq ?_); refine PW.rg rfl fun K hK => ?_; simp (maxSteps := 3000000) (disch := omega) only [go_sem, ↓reduceIte, reduceCtorEq, pappend, plen]; refine hK _ _ ?_; clear hK K
            refine PL.at [0, 4, 5, 6, 11, 12] hfin ?_ ?_
            · rw [← eO, ← Nat.add_assoc]; rfl
            · rw [← eO, ← Nat.add_assoc]; simp [reps]
        · have dM : decide ((S' : Int) ≤ 1048576) = false := decide_eq_false (by omega)
          (repeat refine PW.seq ?_); refine PW.cond (t := _) rfl (fun h => ?_) (fun h => ?_)
          · rw [dM] at h; cases h
          refine PW.skip ?_
          (repeat refine PW.seq ?_); refine PW.rg rfl fun K hK => ?_; simp (maxSteps := 3000000) (disch := omega) only [go_sem, ↓reduceIte, reduceCtorEq, pappend, plen]; refine hK _ _ ?_; clear hK K
          exact PL.at [0, 4, 5, 6, 11, 12] (hnext O he hS3 hO (fun h => absurd h hM) hP2) rfl rfl
    · have hkl : k = l.length := by have := of_decide_eq_false h; omega
      subst hkl
      rw [List.take_length] at hS hOb hP ⊢
      rw [List.drop_length, erL] at he
      rw [if_pos he] at hr
      refine PW.exit ?_
      generalize byS l = B at *
      generalize piL l = P at *
      by_cases h1 : 256 < P ∨ 1048576 < B.length
      · rw [if_pos h1] at hr
        suffices hrest : PW Tryd.prog _ _ [(62, .bool true)] (H ++ [⟨5, O.length, bs O⟩]) _ by
          by_cases hp1 : 256 < P
          · have d1 : decide ((256 : Int) < (P : Int)) = true := decide_eq_true (by omega)
            (repeat refine PW.seq ?_); refine PW.rg rfl fun K hK => ?_; simp (maxSteps := 3000000) (disch := omega) only [go_sem, ↓reduceIte, reduceCtorEq, pappend, plen, d1]; refine hK _ _ ?_; clear hK K
            exact PW.at [62] hrest rfl rfl
          · have d1 : decide ((256 : Int) < (P : Int)) = false := decide_eq_false (by omega)
            have d2 : decide ((1048576 : Int) < (B.length : Int)) = true := decide_eq_true (by omega)
            (repeat refine PW.seq ?_); refine PW.rg rfl fun K hK => ?_; simp (maxSteps := 3000000) (disch := omega) only [go_sem, ↓reduceIte, reduceCtorEq, pappend, plen, d1, d2]; refine hK _ _ ?_; clear hK K
            exact PW.at [62] hrest rfl rfl
        (repeat refine PW.seq ?_); refine PW.cond (t := _) rfl (fun h => ?_) (fun h => ?_)
        rotate_left
        · cases h
        (repeat refine PW.seq ?_); refine PW.rg rfl fun K hK => ?_; simp (maxSteps := 3000000) (disch := omega) only [go_sem, ↓reduceIte, reduceCtorEq, pappend, plen]; refine hK _ _ ?_; clear hK K
        refine PW.ret ⟨.tup [.slice [] 0 true, .int .i64 5], by simp (maxSteps := 3000000) (disch := omega) only [go_sem, ↓reduceIte, reduceCtorEq, pappend, plen, presults, presult, List.mapM_cons, List.mapM_nil, Option.pure_def, Option.bind_eq_bind, Option.bind_some, Array.toList], ?_⟩
        rw [← hr]
        exact fe 5 _
      · rw [if_neg h1] at hr
        have d1 : decide ((256 : Int) < (P : Int)) = false := decide_eq_false (by omega)
        have d2 : decide ((1048576 : Int) < (B.length : Int)) = false := decide_eq_false (by omega)
        (repeat refine PW.seq ?_); refine PW.rg rfl fun K hK => ?_; simp (maxSteps := 3000000) (disch := omega) only [go_sem, ↓reduceIte, reduceCtorEq, pappend, plen, d1, d2]; refine hK _ _ ?_; clear hK K
        (repeat refine PW.seq ?_); refine PW.cond (t := _) rfl (fun h => ?_) (fun h => ?_)
        · cases h
        refine PW.skip ?_
        (repeat refine PW.seq ?_); refine PW.rg rfl fun K hK => ?_; simp (maxSteps := 3000000) (disch := omega) only [go_sem, ↓reduceIte, reduceCtorEq, pappend, plen]; refine hK _ _ ?_; clear hK K
        refine PW.ret ⟨.tup [.msl H.length O.length 0 O.length 1 true, .int .i64 0], by simp (maxSteps := 3000000) (disch := omega) only [go_sem, ↓reduceIte, reduceCtorEq, pappend, plen, presults, presult, List.mapM_cons, List.mapM_nil, Option.pure_def, Option.bind_eq_bind, Option.bind_some, Array.toList], ?_⟩
        rw [← hr, ← hOb (by omega)]
        refine Fin.base (Fz.tupC ⟨?_, .id (.int _ _), trivial⟩)
        exact Fz.mslC (e := 5) (xs := bs O) (Nat.le_refl _) (hp0 _ _ _) (by rw [bO, Nat.mul_one]) (FzC.refl (bs_scoped _ _))

end Go.Proofs.YtbhdollgohgkgaaDoor.Sc
