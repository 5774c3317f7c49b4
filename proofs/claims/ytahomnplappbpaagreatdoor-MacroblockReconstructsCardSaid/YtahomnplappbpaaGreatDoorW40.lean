/-
  Parts of the proof, put together in one text. No condition.
-/
import Derived.Test.YtahomnplappbpaaGreatDoorW39
import Derived.Test.YtahomnplappbpaaGreatDoorW36
import Derived.Test.YtahomnplappbpaaGreatDoorW28
namespace Go.Proofs.YtahomnplappbpaaGreatDoor.Sc
set_option linter.all false
set_option linter.unusedVariables false
set_option linter.unusedSimpArgs false
open Pm Ty Go.RowKit

theorem mayv_ref (x y : Int) (H : Heap) : CallOk Tryz.prog 172 [.agg [.int .i64 x, .int .i64 y]] H (.bool (vrg x y)) H := by
  refine CallOk.body (F0 := [(0, .agg [.int .i64 x, .int .i64 y])]) Tryz.func172 rfl Tryz.ntmps172 Tryz.results172 rfl (by kernel_rfl) rfl ?_
  (repeat' (first | refine PW.seq ?_ | refine PW.skip ?_ | refine PW.block ?_ | (refine PW.rg rfl fun K hK => ?_; simp (maxSteps := 3000000) (disch := omega) only [go_sem, ↓reduceIte, reduceCtorEq, pappend, plen]) | (refine PW.draw mix (by kernel_rfl) fun K hK => ?_; simp (maxSteps := 3000000) (disch := omega) only [go_sem, ↓reduceIte, reduceCtorEq, pappend, plen]) | (refine PW.drawg mix (by kernel_rfl) fun K hK => ?_; simp (maxSteps := 3000000) (disch := omega) only [go_sem, ↓reduceIte, reduceCtorEq, pappend, plen]) | (refine PW.drawt [] [] mix (by kernel_rfl) fun K hK => ?_; simp (maxSteps := 3000000) (disch := omega) only [go_sem, ↓reduceIte, reduceCtorEq, pappend, plen]) | ((first | refine VO_cond ?_ ?_ | refine VOd_cond ?_ ?_ | refine VOg_cond ?_ ?_ | refine VOh_cond ?_ ?_ | refine VOi_cond ?_ ?_ | refine And.intro ?_ ?_) <;> intro h <;> (try simp only [Bool.not_eq_true', Bool.not_eq_false', decide_eq_true_eq, decide_eq_false_iff_not] at h) <;> simp (maxSteps := 3000000) (disch := omega) only [go_sem, ↓reduceIte, reduceCtorEq, pappend, plen, h]) | (refine hK _ _ ?_; clear hK K) | (refine PW.cond (t := _) rfl (fun h => ?_) (fun h => ?_) <;> (try (cases h; done)) <;> (try simp only [Bool.not_eq_true', Bool.not_eq_false', decide_eq_true_eq, decide_eq_false_iff_not] at h))))
  all_goals ((refine PW.ret ⟨_, rfl, ?_⟩; first | refine .inl ⟨?_, rfl⟩ | refine Fin.base (.id' ?_ (.bool _)) | refine Fin.base (.id' ?_ (.int _ _))); (simp_all [vrg, win, slot, Nat.beq] <;> first | rfl | omega | (rw [Bool.eq_iff_iff]; simp; done) | (rw [Bool.eq_iff_iff]; simp; omega)))

theorem tmod2_z (x : Int) : (x.tmod 2 != 0) = !decide (x % 2 = 0) := by
  have h : x.tmod 2 = 0 ↔ x % 2 = 0 := by
    constructor
    · intro h; have := Int.tmod_add_mul_tdiv x 2; omega
    · intro h
      have := Int.dvd_of_emod_eq_zero h
      exact Int.tmod_eq_zero_of_dvd this
  by_cases h1 : x % 2 = 0
  · rw [decide_eq_true h1, h.2 h1]; rfl
  · have : x.tmod 2 ≠ 0 := fun e => h1 (h.1 e)
    rw [decide_eq_false h1]; simp [this]

set_option maxHeartbeats 3200000 in
set_option maxRecDepth 10000 in
theorem predictF_ref (f : Fm) (x y vx vy : Int) (hg : Nat) (hgb : hg = 8 ∨ hg = 16) (hb : -100000 ≤ x ∧ x ≤ 100000 ∧ -100000 ≤ y ∧ y ≤ 100000) (H : Heap) :
    CallOk Tryz.prog 90 [.agg (fmc f), .int .i64 x, .int .i64 y, .int .i64 16, .int .i64 (hg : Int), .agg [.int .i64 vx, .int .i64 vy]] H (.tup [.agg (fmc (prdG f x y hg vx vy).1), .int .i64 (prdG f x y hg vx vy).2]) H := by
  have fo := fun K => formed_ref f K
  have vo := fun K => mayv_ref vx vy K
  generalize hr : prdG f x y hg vx vy = r
  obtain ⟨w, ht, Y, U, V⟩ := f
  by_cases hf : fmd ⟨w, ht, Y, U, V⟩ = true
  case neg =>
    have hf : fmd ⟨w, ht, Y, U, V⟩ = false := by simpa using hf
    rw [hf] at fo
    rw [prdG, hf, Bool.false_and, if_neg (by simp)] at hr
    simp only [fmc] at fo ⊢
    refine CallOk.body (F0 := [(0, .agg [.int .i64 w, .int .i64 ht, .slice (bs Y) Y.length false, .slice (bs U) U.length false, .slice (bs V) V.length false]), (1, .int .i64 x), (2, .int .i64 y), (3, .int .i64 16), (4, .int .i64 (hg : Int)), (5, .agg [.int .i64 vx, .int .i64 vy])]) Tryz.func90 rfl Tryz.ntmps90 Tryz.results90 rfl (by kernel_rfl) rfl ?_
    (repeat refine PW.seq ?_); refine PW.rg rfl fun K hK => ?_; simp (maxSteps := 3000000) (disch := omega) only [go_sem, ↓reduceIte, reduceCtorEq, pappend, plen]; refine hK _ _ ?_; clear hK K
    (repeat refine PW.seq ?_)
    refine PW.rgv (P := Tryz.prog) [12, 13] 62 (.bool true) ?_ ?_ ?_
    · rfl
    · simp (maxSteps := 3000000) (disch := omega) only [go_sem, ↓reduceIte, reduceCtorEq, pappend, plen]; (repeat' (first | ((first | refine VO_cond ?_ ?_ | refine VOd_cond ?_ ?_ | refine VOg_cond ?_ ?_ | refine VOh_cond ?_ ?_ | refine VOi_cond ?_ ?_ | refine And.intro ?_ ?_) <;> intro h <;> (try simp only [Bool.not_eq_true', Bool.not_eq_false', decide_eq_true_eq, decide_eq_false_iff_not] at h) <;> simp (maxSteps := 3000000) (disch := omega) only [go_sem, ↓reduceIte, reduceCtorEq, pappend, plen, h]) | ((first | refine VCx.call (fo _) rfl ?_ | refine VCy.call (fo _) rfl ?_ | refine VCz.call (fun _ => fo _) rfl ?_ | refine VCk.call (fun _ _ => fo _) rfl ?_ | refine VCj.now (fo _) rfl ?_); simp (maxSteps := 3000000) (disch := omega) only [go_sem, ↓reduceIte, reduceCtorEq, pappend, plen])))
      all_goals (simp_all [slot, Nat.beq] <;> first | rfl | omega | (rw [Bool.eq_iff_iff]; simp; done) | (rw [Bool.eq_iff_iff]; simp; omega))
    (repeat refine PW.seq ?_); refine PW.cond (t := _) rfl (fun h => ?_) (fun h => ?_)
    rotate_left
    · cases h
    (repeat refine PW.seq ?_); refine PW.rg rfl fun K hK => ?_; simp (maxSteps := 3000000) (disch := omega) only [go_sem, ↓reduceIte, reduceCtorEq, pappend, plen]; refine hK _ _ ?_; clear hK K
    refine PW.ret ⟨.tup [.agg [.int .i64 0, .int .i64 0, .slice [] 0 true, .slice [] 0 true, .slice [] 0 true], .int .i64 1], by simp (maxSteps := 3000000) (disch := omega) only [go_sem, ↓reduceIte, reduceCtorEq, pappend, plen, presults, presult, List.mapM_cons, List.mapM_nil, Option.pure_def, Option.bind_eq_bind, Option.bind_some, Array.toList], ?_⟩
    rw [← hr]
    exact Fin.base (fz0 _ _ _)
  rw [hf] at fo
  rw [prdG, hf, Bool.true_and] at hr
  obtain ⟨A, B, a1, a2, b1, b2, ew, eh, ly, lu, lv⟩ := fmd_nat hf
  simp only at ew eh ly lu lv
  subst ew eh
  simp only [fmc] at fo ⊢
  refine CallOk.body (F0 := [(0, .agg [.int .i64 ((2 * A : Nat) : Int), .int .i64 ((2 * B : Nat) : Int), .slice (bs Y) Y.length false, .slice (bs U) U.length false, .slice (bs V) V.length false]), (1, .int .i64 x), (2, .int .i64 y), (3, .int .i64 16), (4, .int .i64 (hg : Int)), (5, .agg [.int .i64 vx, .int .i64 vy])]) Tryz.func90 rfl Tryz.ntmps90 Tryz.results90 rfl (by kernel_rfl) rfl ?_
  (repeat refine PW.seq ?_); refine PW.rg rfl fun K hK => ?_; simp (maxSteps := 3000000) (disch := omega) only [go_sem, ↓reduceIte, reduceCtorEq, pappend, plen]; refine hK _ _ ?_; clear hK K
  (repeat refine PW.seq ?_)
  refine PW.rgv (P := Tryz.prog) [1, 2, 3, 4, 6, 11, 12, 13] 62 (.bool (!(pinB ⟨((2 * A : Nat) : Int), ((2 * B : Nat) : Int), Y, U, V⟩ x y hg))) ?_ ?_ ?_
  · rfl
  · clear hr vo
    rcases hgb with rfl | rfl
    all_goals (simp (maxSteps := 3000000) (disch := omega) only [go_sem, ↓reduceIte, reduceCtorEq, pappend, plen]; (repeat' (first | ((first | refine VO_cond ?_ ?_ | refine VOd_cond ?_ ?_ | refine VOg_cond ?_ ?_ | refine VOh_cond ?_ ?_ | refine VOi_cond ?_ ?_ | refine And.intro ?_ ?_) <;> intro h <;> (try simp only [Bool.not_eq_true', Bool.not_eq_false', decide_eq_true_eq, decide_eq_false_iff_not] at h) <;> simp (maxSteps := 3000000) (disch := omega) only [go_sem, ↓reduceIte, reduceCtorEq, pappend, plen, tmod2_z, h]) | ((first | refine VCx.call (fo _) rfl ?_ | refine VCy.call (fo _) rfl ?_ | refine VCz.call (fun _ => fo _) rfl ?_ | refine VCk.call (fun _ _ => fo _) rfl ?_ | refine VCj.now (fo _) rfl ?_); simp (maxSteps := 3000000) (disch := omega) only [go_sem, ↓reduceIte, reduceCtorEq, pappend, plen, tmod2_z]))))
    all_goals (clear fo; (simp_all [pinB, slot, Nat.beq] <;> first | rfl | omega | (rw [Bool.eq_iff_iff]; simp; done) | (rw [Bool.eq_iff_iff]; simp; omega)))
  (repeat refine PW.seq ?_); refine PW.cond (t := _) rfl (fun h => ?_) (fun h => ?_)
  · have hp : pinB ⟨((2 * A : Nat) : Int), ((2 * B : Nat) : Int), Y, U, V⟩ x y hg = false := by simpa using h
    rw [hp, if_neg (by simp)] at hr
    (repeat refine PW.seq ?_); refine PW.rg rfl fun K hK => ?_; simp (maxSteps := 3000000) (disch := omega) only [go_sem, ↓reduceIte, reduceCtorEq, pappend, plen]; refine hK _ _ ?_; clear hK K
    refine PW.ret ⟨.tup [.agg [.int .i64 0, .int .i64 0, .slice [] 0 true, .slice [] 0 true, .slice [] 0 true], .int .i64 1], by simp (maxSteps := 3000000) (disch := omega) only [go_sem, ↓reduceIte, reduceCtorEq, pappend, plen, presults, presult, List.mapM_cons, List.mapM_nil, Option.pure_def, Option.bind_eq_bind, Option.bind_some, Array.toList], ?_⟩
    rw [← hr]
    exact Fin.base (fz0 _ _ _)
  have hp : pinB ⟨((2 * A : Nat) : Int), ((2 * B : Nat) : Int), Y, U, V⟩ x y hg = true := by simpa using h
  rw [hp, if_pos rfl] at hr
  refine PW.skip ?_
  (repeat refine PW.seq ?_); refine PW.rg rfl fun K hK => ?_; simp (maxSteps := 3000000) (disch := omega) only [go_sem, ↓reduceIte, reduceCtorEq, pappend, plen]; refine VCx.call (vo _) rfl ?_; simp (maxSteps := 3000000) (disch := omega) only [go_sem, ↓reduceIte, reduceCtorEq, pappend, plen]; refine hK _ _ ?_; clear hK K
  (repeat refine PW.seq ?_); refine PW.cond (t := _) rfl (fun h => ?_) (fun h => ?_)
  · have hv : vrg vx vy = false := by simpa using h
    rw [hv, if_neg (by simp)] at hr
    (repeat refine PW.seq ?_); refine PW.rg rfl fun K hK => ?_; simp (maxSteps := 3000000) (disch := omega) only [go_sem, ↓reduceIte, reduceCtorEq, pappend, plen]; refine hK _ _ ?_; clear hK K
    refine PW.ret ⟨.tup [.agg [.int .i64 0, .int .i64 0, .slice [] 0 true, .slice [] 0 true, .slice [] 0 true], .int .i64 2], by simp (maxSteps := 3000000) (disch := omega) only [go_sem, ↓reduceIte, reduceCtorEq, pappend, plen, presults, presult, List.mapM_cons, List.mapM_nil, Option.pure_def, Option.bind_eq_bind, Option.bind_some, Array.toList], ?_⟩
    rw [← hr]
    exact Fin.base (fz0 _ _ _)
  have hv : vrg vx vy = true := by simpa using h
  rw [hv, if_pos rfl] at hr
  refine PW.skip ?_
  have hvb : -63 ≤ vx ∧ vx ≤ 63 ∧ -63 ≤ vy ∧ vy ≤ 63 := by simp [vrg, win] at hv; omega
  simp only [pinB, Bool.and_eq_true, decide_eq_true_eq] at hp
  obtain ⟨p1, p2, p3, p4, p5, p6⟩ := hp
  have d1 : ((2 * A : Nat) : Int).tdiv 2 = (A : Int) := by rw [tdiv_pos _ _ (by omega)]; omega
  have d2 : ((2 * B : Nat) : Int).tdiv 2 = (B : Int) := by rw [tdiv_pos _ _ (by omega)]; omega
  have d3 : x.tdiv 2 = x / 2 := tdiv_pos _ _ (by omega)
  have d4 : y.tdiv 2 = y / 2 := tdiv_pos _ _ (by omega)
  have d5 : (hg : Int).tdiv 2 = ((hg / 2 : Nat) : Int) := by rw [tdiv_pos _ _ (by omega)]; omega
  have d6 : (16 : Int).tdiv 2 = 8 := rfl
  have t1 : -63 ≤ vx.tdiv 2 ∧ vx.tdiv 2 ≤ 63 := by have := tdiv_abs vx 2; omega
  have t2 : -63 ≤ vy.tdiv 2 ∧ vy.tdiv 2 ≤ 63 := by have := tdiv_abs vy 2; omega
  have c1 := fun K => comp_ref Y (2 * A) (2 * B) 16 hg x y vx vy false K ly (by omega) (by omega) (by omega) (by omega) (by omega) hvb
  have c2 := fun K => comp_ref U A B 8 (hg / 2) (x / 2) (y / 2) (vx.tdiv 2) (vy.tdiv 2) false K lu (by omega) (by omega) (by omega) (by omega) (by omega) (by omega)
  have c3 := fun K => comp_ref V A B 8 (hg / 2) (x / 2) (y / 2) (vx.tdiv 2) (vy.tdiv 2) false K lv (by omega) (by omega) (by omega) (by omega) (by omega) (by omega)
  have q1 : (prdF ⟨((2 * A : Nat) : Int), ((2 * B : Nat) : Int), Y, U, V⟩ x y hg vx vy).y = prd Y ((2 * A : Nat) : Int) ((2 * B : Nat) : Int) x y 16 hg vx vy := rfl
  have dA : ((2 * A : Nat) : Int) / 2 = (A : Int) := by omega
  have dB : ((2 * B : Nat) : Int) / 2 = (B : Int) := by omega
  have q2 : (prdF ⟨((2 * A : Nat) : Int), ((2 * B : Nat) : Int), Y, U, V⟩ x y hg vx vy).u = prd U (A : Int) (B : Int) (x / 2) (y / 2) 8 (hg / 2) (vx.tdiv 2) (vy.tdiv 2) := by
    show prd U (((2 * A : Nat) : Int) / 2) (((2 * B : Nat) : Int) / 2) _ _ _ _ _ _ = _
    rw [dA, dB]
  have q3 : (prdF ⟨((2 * A : Nat) : Int), ((2 * B : Nat) : Int), Y, U, V⟩ x y hg vx vy).v = prd V (A : Int) (B : Int) (x / 2) (y / 2) 8 (hg / 2) (vx.tdiv 2) (vy.tdiv 2) := by
    show prd V (((2 * A : Nat) : Int) / 2) (((2 * B : Nat) : Int) / 2) _ _ _ _ _ _ = _
    rw [dA, dB]
  have hc := prdF_c ⟨((2 * A : Nat) : Int), ((2 * B : Nat) : Int), Y, U, V⟩ x y hg vx vy
  rw [q1, q2, q3] at hc
  generalize prd Y ((2 * A : Nat) : Int) ((2 * B : Nat) : Int) x y 16 hg vx vy = PY at c1 hc
  generalize prd U (A : Int) (B : Int) (x / 2) (y / 2) 8 (hg / 2) (vx.tdiv 2) (vy.tdiv 2) = PU at c2 hc
  generalize prd V (A : Int) (B : Int) (x / 2) (y / 2) 8 (hg / 2) (vx.tdiv 2) (vy.tdiv 2) = PV1 at c3 hc
  have hcr : fmc r.1 = [.int .i64 16, .int .i64 (hg : Int), .slice (bs PY) (16 * hg) false, .slice (bs PU) (8 * (hg / 2)) false, .slice (bs PV1) (8 * (hg / 2)) false] := by rw [← hr]; exact hc
  have hcr2 : r.2 = 0 := by rw [← hr]
  simp only [fmc] at hcr
  rw [hcr, hcr2]
  clear hr q1 q2 q3 hc hcr
  (repeat refine PW.seq ?_); refine PW.draw mix (by kernel_rfl) fun K hK => ?_; simp (maxSteps := 3000000) (disch := omega) only [go_sem, ↓reduceIte, reduceCtorEq, pappend, plen, d1, d2, d3, d4, d5, d6]
  (repeat' (first | ((first | refine VO_cond ?_ ?_ | refine VOd_cond ?_ ?_ | refine VOg_cond ?_ ?_ | refine VOh_cond ?_ ?_ | refine VOi_cond ?_ ?_ | refine And.intro ?_ ?_) <;> intro h <;> (try simp only [Bool.not_eq_true', Bool.not_eq_false', decide_eq_true_eq, decide_eq_false_iff_not] at h) <;> simp (maxSteps := 3000000) (disch := omega) only [go_sem, ↓reduceIte, reduceCtorEq, pappend, plen, d1, d2, d3, d4, d5, d6, h]) | ((first | refine VCx.call (c1 _) rfl ?_ | refine VCx.call (c2 _) rfl ?_ | refine VCx.call (c3 _) rfl ?_ | refine VCy.call (c1 _) rfl ?_ | refine VCy.call (c2 _) rfl ?_ | refine VCy.call (c3 _) rfl ?_ | refine VCz.call (fun _ => c1 _) rfl ?_ | refine VCz.call (fun _ => c2 _) rfl ?_ | refine VCz.call (fun _ => c3 _) rfl ?_ | refine VCk.call (fun _ _ => c1 _) rfl ?_ | refine VCk.call (fun _ _ => c2 _) rfl ?_ | refine VCk.call (fun _ _ => c3 _) rfl ?_ | refine VCj.now (c1 _) rfl ?_ | refine VCj.now (c2 _) rfl ?_ | refine VCj.now (c3 _) rfl ?_); simp (maxSteps := 3000000) (disch := omega) only [go_sem, ↓reduceIte, reduceCtorEq, pappend, plen, d1, d2, d3, d4, d5, d6])))
  refine hK _ _ ?_; clear hK K
  refine PW.ret ⟨.tup [.agg [.int .i64 16, .int .i64 (hg : Int), .slice (bs PY) (16 * hg) false, .slice (bs PU) (8 * (hg / 2)) false, .slice (bs PV1) (8 * (hg / 2)) false], .int .i64 0], by simp (maxSteps := 3000000) (disch := omega) only [go_sem, ↓reduceIte, reduceCtorEq, pappend, plen, presults, presult, List.mapM_cons, List.mapM_nil, Option.pure_def, Option.bind_eq_bind, Option.bind_some, Array.toList], ?_⟩
  exact Fin.base (.id (fe_scoped _ _ _ _ _ _ _ _ _ _))

theorem fieldR (f : Fm) (s : Int) (hf : fvd f = true) (h32 : f.h % 32 = 0) (hs : s = 0 ∨ s = 1) (L : Heap) : CallOk Tryz.prog 25 [.agg (fmc f), .int .i64 s] L (.tup [.agg (fmc (fieldOf f s)), .int .i64 0]) L := by
  obtain ⟨w, ht, y, u, v⟩ := f
  obtain ⟨V, K, rfl, rfl, hok⟩ := fvd_fr4 hf h32
  obtain ⟨P, hP, rfl⟩ : ∃ P : Nat, P ≤ 1 ∧ s = (P : Int) := by
    rcases hs with e | e
    · exact ⟨0, by omega, by omega⟩
    · exact ⟨1, by omega, by omega⟩
  have e1 := fieldOf_fr4 V K P y u v
  have e2 := field_ref V K P y u v L hok hP
  unfold fr4 at e1 e2
  rw [e1]; exact e2

set_option maxHeartbeats 1600000 in
theorem weave_ref (V K : Nat) (a b : Fm) (ha : Hok V K a) (hb : Hok V K b) (H : Heap) : CallOk Tryz.prog 173 [.agg (fmc a), .agg (fmc b)] H (.tup [.agg (fmc (wovG V K a b)), .int .i64 0]) H := by
  have fa := fun L => formed_ref a L
  have fb := fun L => formed_ref b L
  rw [ha.fmd] at fa
  rw [hb.fmd] at fb
  obtain ⟨w, ht, y, u, v⟩ := a
  obtain ⟨w', ht', y', u', v'⟩ := b
  obtain ⟨hw, hh, ⟨v1, v2⟩, ⟨k1, k2⟩, ly, lu, lv⟩ := ha
  obtain ⟨hw', hh', _, _, ly', lu', lv'⟩ := hb
  simp only at hw hh ly lu lv hw' hh' ly' lu' lv'
  subst hw hh hw' hh'
  have w1 := fun L => woven_ref y y' (2 * V) (2 * K) false false L ly ly' (by omega) (by omega)
  have w2 := fun L => woven_ref u u' V K false false L lu lu' (by omega) (by omega)
  have w3 := fun L => woven_ref v v' V K false false L lv lv' (by omega) (by omega)
  have n1 := wov_len ly ly' (2 * K) (Nat.le_refl _)
  have n2 := wov_len lu lu' K (Nat.le_refl _)
  have n3 := wov_len lv lv' K (Nat.le_refl _)
  have d1 : ((2 * V : Nat) : Int).tdiv 2 = (V : Int) := by rw [tdiv_pos _ _ (by omega)]; omega
  have d2 : (2 : Int) * ((2 * K : Nat) : Int) = ((4 * K : Nat) : Int) := by omega
  have hr : fmc (wovG V K ⟨((2 * V : Nat) : Int), ((2 * K : Nat) : Int), y, u, v⟩ ⟨((2 * V : Nat) : Int), ((2 * K : Nat) : Int), y', u', v'⟩) = [.int .i64 ((2 * V : Nat) : Int), .int .i64 ((4 * K : Nat) : Int), .slice (bs (wov y y' (2 * V) (2 * K))) (2 * K * (2 * (2 * V))) false, .slice (bs (wov u u' V K)) (K * (2 * V)) false, .slice (bs (wov v v' V K)) (K * (2 * V)) false] := by
    unfold wovG fmc
    simp only [n1, n2, n3]
  rw [hr]
  simp only [fmc] at fa fb ⊢
  refine CallOk.body (F0 := [(0, .agg [.int .i64 ((2 * V : Nat) : Int), .int .i64 ((2 * K : Nat) : Int), .slice (bs y) y.length false, .slice (bs u) u.length false, .slice (bs v) v.length false]), (1, .agg [.int .i64 ((2 * V : Nat) : Int), .int .i64 ((2 * K : Nat) : Int), .slice (bs y') y'.length false, .slice (bs u') u'.length false, .slice (bs v') v'.length false])]) Tryz.func173 rfl Tryz.ntmps173 Tryz.results173 rfl (by kernel_rfl) rfl ?_
  (repeat refine PW.seq ?_); refine PW.rg rfl fun K hK => ?_; simp (maxSteps := 3000000) (disch := omega) only [go_sem, ↓reduceIte, reduceCtorEq, pappend, plen]; refine hK _ _ ?_; clear hK K
  (repeat refine PW.seq ?_)
  refine PW.rgv (P := Tryz.prog) [2, 3, 4] 33 (.bool false) ?_ ?_ ?_
  · rfl
  · clear w1 w2 w3
    simp (maxSteps := 3000000) (disch := omega) only [go_sem, ↓reduceIte, reduceCtorEq, pappend, plen]; (repeat' (first | ((first | refine VO_cond ?_ ?_ | refine VOd_cond ?_ ?_ | refine VOg_cond ?_ ?_ | refine VOh_cond ?_ ?_ | refine VOi_cond ?_ ?_ | refine And.intro ?_ ?_) <;> intro h <;> (try simp only [Bool.not_eq_true', Bool.not_eq_false', decide_eq_true_eq, decide_eq_false_iff_not] at h) <;> simp (maxSteps := 3000000) (disch := omega) only [go_sem, ↓reduceIte, reduceCtorEq, pappend, plen, d2, h]) | ((first | refine VCx.call (fa _) rfl ?_ | refine VCx.call (fb _) rfl ?_ | refine VCy.call (fa _) rfl ?_ | refine VCy.call (fb _) rfl ?_ | refine VCz.call (fun _ => fa _) rfl ?_ | refine VCz.call (fun _ => fb _) rfl ?_ | refine VCk.call (fun _ _ => fa _) rfl ?_ | refine VCk.call (fun _ _ => fb _) rfl ?_ | refine VCj.now (fa _) rfl ?_ | refine VCj.now (fb _) rfl ?_); simp (maxSteps := 3000000) (disch := omega) only [go_sem, ↓reduceIte, reduceCtorEq, pappend, plen, d2])))
    all_goals (clear fa fb; (simp_all [slot, Nat.beq] <;> first | rfl | omega | (rw [Bool.eq_iff_iff]; simp; done) | (rw [Bool.eq_iff_iff]; simp; omega)))
  (repeat refine PW.seq ?_); refine PW.cond (t := _) rfl (fun h => ?_) (fun h => ?_)
  · cases h
  refine PW.skip ?_
  (repeat refine PW.seq ?_); refine PW.draw mix (by kernel_rfl) fun K hK => ?_; simp (maxSteps := 3000000) (disch := omega) only [go_sem, ↓reduceIte, reduceCtorEq, pappend, plen, d1, d2]
  (repeat' (first | ((first | refine VO_cond ?_ ?_ | refine VOd_cond ?_ ?_ | refine VOg_cond ?_ ?_ | refine VOh_cond ?_ ?_ | refine VOi_cond ?_ ?_ | refine And.intro ?_ ?_) <;> intro h <;> (try simp only [Bool.not_eq_true', Bool.not_eq_false', decide_eq_true_eq, decide_eq_false_iff_not] at h) <;> simp (maxSteps := 3000000) (disch := omega) only [go_sem, ↓reduceIte, reduceCtorEq, pappend, plen, d1, d2, h]) | ((first | refine VCx.call (w1 _) rfl ?_ | refine VCx.call (w2 _) rfl ?_ | refine VCx.call (w3 _) rfl ?_ | refine VCy.call (w1 _) rfl ?_ | refine VCy.call (w2 _) rfl ?_ | refine VCy.call (w3 _) rfl ?_ | refine VCz.call (fun _ => w1 _) rfl ?_ | refine VCz.call (fun _ => w2 _) rfl ?_ | refine VCz.call (fun _ => w3 _) rfl ?_ | refine VCk.call (fun _ _ => w1 _) rfl ?_ | refine VCk.call (fun _ _ => w2 _) rfl ?_ | refine VCk.call (fun _ _ => w3 _) rfl ?_ | refine VCj.now (w1 _) rfl ?_ | refine VCj.now (w2 _) rfl ?_ | refine VCj.now (w3 _) rfl ?_); simp (maxSteps := 3000000) (disch := omega) only [go_sem, ↓reduceIte, reduceCtorEq, pappend, plen, d1, d2])))
  refine hK _ _ ?_; clear hK K
  refine PW.ret ⟨.tup [.agg [.int .i64 ((2 * V : Nat) : Int), .int .i64 ((4 * K : Nat) : Int), .slice (bs (wov y y' (2 * V) (2 * K))) (2 * K * (2 * (2 * V))) false, .slice (bs (wov u u' V K)) (K * (2 * V)) false, .slice (bs (wov v v' V K)) (K * (2 * V)) false], .int .i64 0], by simp (maxSteps := 3000000) (disch := omega) only [go_sem, ↓reduceIte, reduceCtorEq, pappend, plen, presults, presult, List.mapM_cons, List.mapM_nil, Option.pure_def, Option.bind_eq_bind, Option.bind_some, Array.toList], ?_⟩
  exact Fin.base (.id (fe_scoped _ _ _ _ _ _ _ _ _ _))

set_option maxHeartbeats 6400000 in
set_option maxRecDepth 100000 in
theorem fields_ref (f : Fm) (mx my va vb vc vd sa sb : Int) (hsa : sa = 0 ∨ sa = 1) (hsb : sb = 0 ∨ sb = 1) (hv1 : vrg va vb = true) (hv2 : vrg vc vd = true) (H : Heap) :
    CallOk Tryz.prog 89 [.agg (fmc f), .int .i64 mx, .int .i64 my, .agg [.int .i64 va, .int .i64 vb, .int .i64 vc, .int .i64 vd], .agg [.int .i64 sa, .int .i64 sb]] H (.tup [.agg (fmc (fldS f mx my va vb vc vd sa sb).1), .int .i64 (fldS f mx my va vb vc vd sa sb).2]) H := by
  have ho := fun L => has_ref f mx my L
  generalize hr : fldS f mx my va vb vc vd sa sb = r
  by_cases hc : (hasM f mx my && decide (f.h % 32 = 0)) = true
  case neg =>
    have hc' : (hasM f mx my && decide (f.h % 32 = 0)) = false := by simpa using hc
    rw [fldS, if_neg hc] at hr
    have hp : hasM f mx my = true → 0 ≤ f.h := fun hm => by
      simp only [hasM, Bool.and_eq_true, decide_eq_true_eq] at hm
      obtain ⟨A0, B0, a1, a2, b1, b2, ew, eh, _⟩ := fvd_nat hm.1
      omega
    generalize hasM f mx my = bh at ho hc' hp
    clear hc
    obtain ⟨w, ht, y, u, v⟩ := f
    simp only [fmc] at ho hc' hp ⊢
    refine CallOk.body (F0 := [(0, .agg [.int .i64 w, .int .i64 ht, .slice (bs y) y.length false, .slice (bs u) u.length false, .slice (bs v) v.length false]), (1, .int .i64 mx), (2, .int .i64 my), (3, .agg [.int .i64 va, .int .i64 vb, .int .i64 vc, .int .i64 vd]), (4, .agg [.int .i64 sa, .int .i64 sb])]) Tryz.func89 rfl Tryz.ntmps89 Tryz.results89 rfl (by kernel_rfl) rfl ?_
    (repeat refine PW.seq ?_); refine PW.rg rfl fun K hK => ?_; simp (maxSteps := 3000000) (disch := omega) only [go_sem, ↓reduceIte, reduceCtorEq, pappend, plen]; refine hK _ _ ?_; clear hK K
    (repeat refine PW.seq ?_)
    refine PW.rgv (P := Tryz.prog) [10, 11] 46 (.bool true) ?_ ?_ ?_
    · rfl
    · clear hr hv1 hv2
      cases bh
      · simp (maxSteps := 3000000) (disch := omega) only [go_sem, ↓reduceIte, reduceCtorEq, pappend, plen]; (repeat' (first | ((first | refine VO_cond ?_ ?_ | refine VOd_cond ?_ ?_ | refine VOg_cond ?_ ?_ | refine VOh_cond ?_ ?_ | refine VOi_cond ?_ ?_ | refine And.intro ?_ ?_) <;> intro h <;> (try simp only [Bool.not_eq_true', Bool.not_eq_false', decide_eq_true_eq, decide_eq_false_iff_not] at h) <;> simp (maxSteps := 3000000) (disch := omega) only [go_sem, ↓reduceIte, reduceCtorEq, pappend, plen, h]) | ((first | refine VCx.call (ho _) rfl ?_ | refine VCy.call (ho _) rfl ?_ | refine VCz.call (fun _ => ho _) rfl ?_ | refine VCk.call (fun _ _ => ho _) rfl ?_ | refine VCj.now (ho _) rfl ?_); simp (maxSteps := 3000000) (disch := omega) only [go_sem, ↓reduceIte, reduceCtorEq, pappend, plen])))
        all_goals (simp_all [slot, Nat.beq] <;> first | rfl | omega | (rw [Bool.eq_iff_iff]; simp; done) | (rw [Bool.eq_iff_iff]; simp; omega))
      · have h0 := hp rfl
        have hm : (ht.tmod 32 != 0) = true := by
          rw [tmod_pos _ _ h0]
          simp only [Bool.true_and, decide_eq_false_iff_not] at hc'
          simpa using hc'
        simp (maxSteps := 3000000) (disch := omega) only [go_sem, ↓reduceIte, reduceCtorEq, pappend, plen]; (repeat' (first | ((first | refine VO_cond ?_ ?_ | refine VOd_cond ?_ ?_ | refine VOg_cond ?_ ?_ | refine VOh_cond ?_ ?_ | refine VOi_cond ?_ ?_ | refine And.intro ?_ ?_) <;> intro h <;> (try simp only [Bool.not_eq_true', Bool.not_eq_false', decide_eq_true_eq, decide_eq_false_iff_not] at h) <;> simp (maxSteps := 3000000) (disch := omega) only [go_sem, ↓reduceIte, reduceCtorEq, pappend, plen, hm, h]) | ((first | refine VCx.call (ho _) rfl ?_ | refine VCy.call (ho _) rfl ?_ | refine VCz.call (fun _ => ho _) rfl ?_ | refine VCk.call (fun _ _ => ho _) rfl ?_ | refine VCj.now (ho _) rfl ?_); simp (maxSteps := 3000000) (disch := omega) only [go_sem, ↓reduceIte, reduceCtorEq, pappend, plen, hm])))
        all_goals (simp_all [slot, Nat.beq] <;> first | rfl | omega | (rw [Bool.eq_iff_iff]; simp; done) | (rw [Bool.eq_iff_iff]; simp; omega))
    (repeat refine PW.seq ?_); refine PW.cond (t := _) rfl (fun h => ?_) (fun h => ?_)
    rotate_left
    · cases h
    (repeat refine PW.seq ?_); refine PW.rg rfl fun K hK => ?_; simp (maxSteps := 3000000) (disch := omega) only [go_sem, ↓reduceIte, reduceCtorEq, pappend, plen]; refine hK _ _ ?_; clear hK K
    refine PW.ret ⟨.tup [.agg [.int .i64 0, .int .i64 0, .slice [] 0 true, .slice [] 0 true, .slice [] 0 true], .int .i64 1], by simp (maxSteps := 3000000) (disch := omega) only [go_sem, ↓reduceIte, reduceCtorEq, pappend, plen, presults, presult, List.mapM_cons, List.mapM_nil, Option.pure_def, Option.bind_eq_bind, Option.bind_some, Array.toList], ?_⟩
    rw [← hr]
    exact Fin.base (fz0 _ _ _)
  rw [fldS, if_pos hc] at hr
  have hc2 := hc
  rw [Bool.and_eq_true, decide_eq_true_eq] at hc2
  obtain ⟨hm, h32⟩ := hc2
  have ga := prdG_fld hm h32 hsa hv1
  have gb := prdG_fld hm h32 hsb hv2
  rw [hm] at ho
  simp only [hasM, Bool.and_eq_true, decide_eq_true_eq] at hm
  obtain ⟨hf, m1, m2, m3, m4⟩ := hm
  have hb := fvd_nat hf
  obtain ⟨A0, B0, a1, a2, b1, b2, ew, eh, _⟩ := hb
  have hmb : mx ≤ 3 ∧ my ≤ 3 := by omega
  have hm0 : (f.h.tmod 32 != 0) = false := by rw [tmod_pos _ _ (by omega), h32]; rfl
  have pa := fun L => predictF_ref (fieldOf f sa) (16 * mx) (8 * my) va vb 8 (.inl rfl) (by omega) L
  have pb := fun L => predictF_ref (fieldOf f sb) (16 * mx) (8 * my) vc vd 8 (.inl rfl) (by omega) L
  rw [ga] at pa
  rw [gb] at pb
  have w1 := fun L => weave_ref 8 4 _ _ (prd8_hok (fieldOf f sa) (16 * mx) (8 * my) va vb) (prd8_hok (fieldOf f sb) (16 * mx) (8 * my) vc vd) L
  have wc := (wovF_16 (fieldOf f sa) (fieldOf f sb) (16 * mx) (8 * my) (16 * mx) (8 * my) va vb vc vd).c
  simp only [wovG_F] at w1
  have fa := fun L => fieldR f sa hf h32 hsa L
  have fb := fun L => fieldR f sb hf h32 hsb L
  have ma := fun L => mayv_ref va vb L
  have mb := fun L => mayv_ref vc vd L
  rw [hv1] at ma
  rw [hv2] at mb
  have hr1 : fmc r.1 = fmc (wovF (prdF (fieldOf f sa) (16 * mx) (8 * my) 8 va vb) (prdF (fieldOf f sb) (16 * mx) (8 * my) 8 vc vd)) := by rw [← hr]
  have hr2 : r.2 = 0 := by rw [← hr]
  rw [hr1, hr2, wc]
  rw [wc] at w1
  simp only [prd8_c] at pa pb w1
  generalize wovF (prdF (fieldOf f sa) (16 * mx) (8 * my) 8 va vb) (prdF (fieldOf f sb) (16 * mx) (8 * my) 8 vc vd) = W at w1 ⊢
  generalize prdF (fieldOf f sa) (16 * mx) (8 * my) 8 va vb = PA at pa w1
  generalize prdF (fieldOf f sb) (16 * mx) (8 * my) 8 vc vd = PB at pb w1
  generalize fieldOf f sa = FA at fa pa
  generalize fieldOf f sb = FB at fb pb
  clear hr hr1 hr2 wc ga gb hc hf ew eh
  obtain ⟨w, ht, y, u, v⟩ := f
  obtain ⟨aw, ah, ay, au, av⟩ := FA
  obtain ⟨bw, bh, by', bu, bv⟩ := FB
  simp only [fmc] at ho fa fb pa pb h32 m2 m4 hm0 ⊢
  have n1 : decide (sa = 0) = false → sa = 1 := fun h => by simp at h; omega
  have n2 : decide (sb = 0) = false → sb = 1 := fun h => by simp at h; omega
  refine CallOk.body (F0 := [(0, .agg [.int .i64 w, .int .i64 ht, .slice (bs y) y.length false, .slice (bs u) u.length false, .slice (bs v) v.length false]), (1, .int .i64 mx), (2, .int .i64 my), (3, .agg [.int .i64 va, .int .i64 vb, .int .i64 vc, .int .i64 vd]), (4, .agg [.int .i64 sa, .int .i64 sb])]) Tryz.func89 rfl Tryz.ntmps89 Tryz.results89 rfl (by kernel_rfl) rfl ?_
  (repeat refine PW.seq ?_); refine PW.rg rfl fun K hK => ?_; simp (maxSteps := 3000000) (disch := omega) only [go_sem, ↓reduceIte, reduceCtorEq, pappend, plen]; refine hK _ _ ?_; clear hK K
  (repeat refine PW.seq ?_)
  refine PW.rgv (P := Tryz.prog) [1, 2, 5, 8, 9, 10, 11] 46 (.bool false) ?_ ?_ ?_
  · rfl
  · clear fa fb pa pb w1 ma mb
    simp (maxSteps := 3000000) (disch := omega) only [go_sem, ↓reduceIte, reduceCtorEq, pappend, plen]; (repeat' (first | ((first | refine VO_cond ?_ ?_ | refine VOd_cond ?_ ?_ | refine VOg_cond ?_ ?_ | refine VOh_cond ?_ ?_ | refine VOi_cond ?_ ?_ | refine And.intro ?_ ?_) <;> intro h <;> (try simp only [Bool.not_eq_true', Bool.not_eq_false', decide_eq_true_eq, decide_eq_false_iff_not] at h) <;> simp (maxSteps := 3000000) (disch := omega) only [go_sem, ↓reduceIte, reduceCtorEq, pappend, plen, hm0, h]) | ((first | refine VCx.call (ho _) rfl ?_ | refine VCy.call (ho _) rfl ?_ | refine VCz.call (fun _ => ho _) rfl ?_ | refine VCk.call (fun _ _ => ho _) rfl ?_ | refine VCj.now (ho _) rfl ?_); simp (maxSteps := 3000000) (disch := omega) only [go_sem, ↓reduceIte, reduceCtorEq, pappend, plen, hm0])))
    all_goals (clear ho; rcases hsa with rfl | rfl <;> rcases hsb with rfl | rfl <;> simp_all [slot, Nat.beq])
  (repeat refine PW.seq ?_); refine PW.cond (t := _) rfl (fun h => ?_) (fun h => ?_)
  · cases h
  refine PW.skip ?_
  (repeat refine PW.seq ?_)
  refine PW.rgv (P := Tryz.prog) [1, 2, 5, 8, 9, 10, 11] 57 (.bool false) ?_ ?_ ?_
  · rfl
  · clear fa fb pa pb w1 ho
    simp (maxSteps := 3000000) (disch := omega) only [go_sem, ↓reduceIte, reduceCtorEq, pappend, plen]; (repeat' (first | ((first | refine VO_cond ?_ ?_ | refine VOd_cond ?_ ?_ | refine VOg_cond ?_ ?_ | refine VOh_cond ?_ ?_ | refine VOi_cond ?_ ?_ | refine And.intro ?_ ?_) <;> intro h <;> (try simp only [Bool.not_eq_true', Bool.not_eq_false', decide_eq_true_eq, decide_eq_false_iff_not] at h) <;> simp (maxSteps := 3000000) (disch := omega) only [go_sem, ↓reduceIte, reduceCtorEq, pappend, plen, h]) | ((first | refine VCx.call (ma _) rfl ?_ | refine VCx.call (mb _) rfl ?_ | refine VCy.call (ma _) rfl ?_ | refine VCy.call (mb _) rfl ?_ | refine VCz.call (fun _ => ma _) rfl ?_ | refine VCz.call (fun _ => mb _) rfl ?_ | refine VCk.call (fun _ _ => ma _) rfl ?_ | refine VCk.call (fun _ _ => mb _) rfl ?_ | refine VCj.now (ma _) rfl ?_ | refine VCj.now (mb _) rfl ?_); simp (maxSteps := 3000000) (disch := omega) only [go_sem, ↓reduceIte, reduceCtorEq, pappend, plen])))
    all_goals (simp_all [slot, Nat.beq] <;> first | rfl | omega | (rw [Bool.eq_iff_iff]; simp; done) | (rw [Bool.eq_iff_iff]; simp; omega))
  (repeat refine PW.seq ?_); refine PW.cond (t := _) rfl (fun h => ?_) (fun h => ?_)
  · cases h
  refine PW.skip ?_
  (repeat refine PW.seq ?_); refine PW.rg rfl fun K hK => ?_; simp (maxSteps := 3000000) (disch := omega) only [go_sem, ↓reduceIte, reduceCtorEq, pappend, plen]; refine VCx.call (fa _) rfl ?_; simp (maxSteps := 3000000) (disch := omega) only [go_sem, ↓reduceIte, reduceCtorEq, pappend, plen]; refine hK _ _ ?_; clear hK K
  (repeat refine PW.seq ?_); refine PW.rg rfl fun K hK => ?_; simp (maxSteps := 3000000) (disch := omega) only [go_sem, ↓reduceIte, reduceCtorEq, pappend, plen]; refine VCx.call (fb _) rfl ?_; simp (maxSteps := 3000000) (disch := omega) only [go_sem, ↓reduceIte, reduceCtorEq, pappend, plen]; refine hK _ _ ?_; clear hK K
  (repeat refine PW.seq ?_); refine PW.rg rfl fun K hK => ?_; simp (maxSteps := 3000000) (disch := omega) only [go_sem, ↓reduceIte, reduceCtorEq, pappend, plen]; refine VCx.call (pa _) rfl ?_; simp (maxSteps := 3000000) (disch := omega) only [go_sem, ↓reduceIte, reduceCtorEq, pappend, plen]; refine hK _ _ ?_; clear hK K
  (repeat refine PW.seq ?_); refine PW.rg rfl fun K hK => ?_; simp (maxSteps := 3000000) (disch := omega) only [go_sem, ↓reduceIte, reduceCtorEq, pappend, plen]; refine VCx.call (pb _) rfl ?_; simp (maxSteps := 3000000) (disch := omega) only [go_sem, ↓reduceIte, reduceCtorEq, pappend, plen]; refine hK _ _ ?_; clear hK K
  (repeat refine PW.seq ?_); refine PW.rg rfl fun K hK => ?_; simp (maxSteps := 3000000) (disch := omega) only [go_sem, ↓reduceIte, reduceCtorEq, pappend, plen]; refine VCx.call (w1 _) rfl ?_; simp (maxSteps := 3000000) (disch := omega) only [go_sem, ↓reduceIte, reduceCtorEq, pappend, plen]; refine hK _ _ ?_; clear hK K
  refine PW.ret ⟨.tup [.agg [.int .i64 16, .int .i64 16, .slice (bs W.y) 256 false, .slice (bs W.u) 64 false, .slice (bs W.v) 64 false], .int .i64 0], by simp (maxSteps := 3000000) (disch := omega) only [go_sem, ↓reduceIte, reduceCtorEq, pappend, plen, presults, presult, List.mapM_cons, List.mapM_nil, Option.pure_def, Option.bind_eq_bind, Option.bind_some, Array.toList], ?_⟩
  exact Fin.base (.id (fe_scoped _ _ _ _ _ _ _ _ _ _))

end Go.Proofs.YtahomnplappbpaaGreatDoor.Sc
