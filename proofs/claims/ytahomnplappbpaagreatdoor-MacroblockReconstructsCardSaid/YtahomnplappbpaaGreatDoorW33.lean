/-
  Parts of the proof, put together in one text. No condition.
-/
import Derived.Test.YtahomnplappbpaaGreatDoorW30
import Derived.Test.YtahomnplappbpaaGreatDoorW29
import Derived.Test.YtahomnplappbpaaGreatDoorW31
import Derived.Test.YtahomnplappbpaaGreatDoorW20
namespace Go.Proofs.YtahomnplappbpaaGreatDoor.Sc
set_option linter.all false
set_option linter.unusedVariables false
set_option linter.unusedSimpArgs false
open Pm Ty Go.RowKit

theorem vin_ok (x y : Int) (H : Heap) : CallOk Tryz.prog 233 [.agg [.int .i64 x, .int .i64 y]] H (.bool (vrg x y)) H := by
  refine CallOk.body (F0 := [(0, .agg [.int .i64 x, .int .i64 y])]) Tryz.func233 rfl Tryz.ntmps233 Tryz.results233 rfl (by kernel_rfl) rfl ?_
  (repeat' (first | refine PW.seq ?_ | refine PW.skip ?_ | refine PW.block ?_ | (refine PW.rg rfl fun K hK => ?_; simp (disch := omega) only [go_sem, ↓reduceIte, reduceCtorEq, pappend, plen]) | (refine PW.draw mix (by kernel_rfl) fun K hK => ?_; simp (disch := omega) only [go_sem, ↓reduceIte, reduceCtorEq, pappend, plen]) | (refine PW.drawg mix (by kernel_rfl) fun K hK => ?_; simp (disch := omega) only [go_sem, ↓reduceIte, reduceCtorEq, pappend, plen]) | (refine PW.drawt [] [] mix (by kernel_rfl) fun K hK => ?_; simp (disch := omega) only [go_sem, ↓reduceIte, reduceCtorEq, pappend, plen]) | ((first | refine VO_cond ?_ ?_ | refine VOd_cond ?_ ?_ | refine VOg_cond ?_ ?_ | refine VOh_cond ?_ ?_ | refine VOi_cond ?_ ?_ | refine And.intro ?_ ?_) <;> intro h <;> (try simp only [Bool.not_eq_true', Bool.not_eq_false', decide_eq_true_eq, decide_eq_false_iff_not] at h) <;> simp (disch := omega) only [go_sem, ↓reduceIte, reduceCtorEq, pappend, plen, h]) | (refine hK _ _ ?_; clear hK K) | (refine PW.cond (t := _) rfl (fun h => ?_) (fun h => ?_) <;> (try (cases h; done)) <;> (try simp only [Bool.not_eq_true', Bool.not_eq_false', decide_eq_true_eq, decide_eq_false_iff_not] at h))))
  all_goals ((refine PW.ret ⟨_, rfl, ?_⟩; first | refine .inl ⟨?_, rfl⟩ | refine Fin.base (.id' ?_ (.bool _)) | refine Fin.base (.id' ?_ (.int _ _))); (simp_all [vrg, win, slot, Nat.beq] <;> first | rfl | omega | (rw [Bool.eq_iff_iff]; simp; done) | (rw [Bool.eq_iff_iff]; simp; omega)))
/-- Where a prediction may lie. -/
def pinB (f : Fm) (x y h : Int) : Bool := decide (0 ≤ x) && (decide (x % 2 = 0) && (decide (x ≤ f.w - 16) && (decide (0 ≤ y) && (decide (y % 2 = 0) && decide (y ≤ f.h - h)))))
def prdG (f : Fm) (x y : Int) (h : Nat) (vx vy : Int) : Fm × Int :=
  if (fmd f && pinB f x y h) = true then (if vrg vx vy = true then (prdF f x y h vx vy, 0) else (f0, 2)) else (f0, 1)
theorem prdF_c (f : Fm) (x y : Int) (h : Nat) (vx vy : Int) : fmc (prdF f x y h vx vy) = [.int .i64 16, .int .i64 (h : Int), .slice (bs (prdF f x y h vx vy).y) (16 * h) false, .slice (bs (prdF f x y h vx vy).u) (8 * (h / 2)) false, .slice (bs (prdF f x y h vx vy).v) (8 * (h / 2)) false] := by
  have l1 : (prdF f x y h vx vy).y.length = 16 * h := prd_len _ _ _ _ _ _ _ _ _
  have l2 : (prdF f x y h vx vy).u.length = 8 * (h / 2) := prd_len _ _ _ _ _ _ _ _ _
  have l3 : (prdF f x y h vx vy).v.length = 8 * (h / 2) := prd_len _ _ _ _ _ _ _ _ _
  unfold fmc
  rw [l1, l2, l3]
  rfl
theorem fmd_nat {f : Fm} (h : fmd f = true) : ∃ V K : Nat, 1 ≤ V ∧ V ≤ 32 ∧ 1 ≤ K ∧ K ≤ 32 ∧ f.w = ((2 * V : Nat) : Int) ∧ f.h = ((2 * K : Nat) : Int) ∧ f.y.length = 2 * V * (2 * K) ∧ f.u.length = V * K ∧ f.v.length = V * K := by
  obtain ⟨w, ht, y, u, v⟩ := f
  simp only [fmd, Bool.and_eq_true, decide_eq_true_eq] at h
  obtain ⟨hs, hy, hu, hv⟩ := h
  obtain ⟨g1, g2, g3, g4, g5, g6⟩ := fsz_of hs
  obtain ⟨A, hA⟩ : ∃ A : Nat, (w / 2).toNat = A := ⟨_, rfl⟩
  obtain ⟨B, hB⟩ : ∃ B : Nat, (ht / 2).toNat = B := ⟨_, rfl⟩
  have e1 : w = ((2 * A : Nat) : Int) := by omega
  have e2 : ht = ((2 * B : Nat) : Int) := by omega
  have e3 : w / 2 = (A : Int) := by omega
  have e4 : ht / 2 = (B : Int) := by omega
  rw [e3, e4] at hu hv
  rw [e1, e2] at hy
  refine ⟨A, B, by omega, by omega, by omega, by omega, e1, e2, ?_, ?_, ?_⟩
  · exact Int.ofNat_inj.1 (hy.trans (Int.natCast_mul _ _).symm)
  · exact Int.ofNat_inj.1 (hu.trans (Int.natCast_mul _ _).symm)
  · exact Int.ofNat_inj.1 (hv.trans (Int.natCast_mul _ _).symm)

set_option maxHeartbeats 3200000 in
set_option maxRecDepth 10000 in
theorem predictF_ok (f : Fm) (x y vx vy : Int) (hg : Nat) (hgb : hg = 8 ∨ hg = 16) (hb : -10000 ≤ x ∧ x ≤ 10000 ∧ -10000 ≤ y ∧ y ≤ 10000) (H : Heap) :
    CallOk Tryz.prog 165 [.agg (fmc f), .int .i64 x, .int .i64 y, .int .i64 16, .int .i64 (hg : Int), .agg [.int .i64 vx, .int .i64 vy]] H (.tup [.agg (fmc (prdG f x y hg vx vy).1), .int .i64 (prdG f x y hg vx vy).2]) H := by
  have fo := fun K => formed_ok f K
  have vo := fun K => vin_ok vx vy K
  have h16 : ((hg : Int) != 8 && (hg : Int) != 16) = false := by rcases hgb with rfl | rfl <;> rfl
  generalize hr : prdG f x y hg vx vy = r
  have hrf : r = prdG f x y hg vx vy := hr.symm
  obtain ⟨w, ht, Y, U, V⟩ := f
  by_cases hf : fmd ⟨w, ht, Y, U, V⟩ = true
  case neg =>
    have hf : fmd ⟨w, ht, Y, U, V⟩ = false := by simpa using hf
    rw [hf] at fo
    rw [prdG, hf, Bool.false_and, if_neg (by simp)] at hr
    simp only [fmc] at fo ⊢
    refine CallOk.body (F0 := [(0, .agg [.int .i64 w, .int .i64 ht, .slice (bs Y) Y.length false, .slice (bs U) U.length false, .slice (bs V) V.length false]), (1, .int .i64 x), (2, .int .i64 y), (3, .int .i64 16), (4, .int .i64 (hg : Int)), (5, .agg [.int .i64 vx, .int .i64 vy])]) Tryz.func165 rfl Tryz.ntmps165 Tryz.results165 rfl (by kernel_rfl) rfl ?_
    (repeat refine PW.seq ?_); refine PW.rg rfl fun K hK => ?_; simp (disch := omega) only [go_sem, ↓reduceIte, reduceCtorEq, pappend, plen]; refine hK _ _ ?_; clear hK K
    (repeat refine PW.seq ?_)
    refine PW.rgv (P := Tryz.prog) [6, 12, 13] 31 (.bool true) ?_ ?_ ?_
    · rfl
    · simp (disch := omega) only [go_sem, ↓reduceIte, reduceCtorEq, pappend, plen]; (repeat' (first | ((first | refine VO_cond ?_ ?_ | refine VOd_cond ?_ ?_ | refine VOg_cond ?_ ?_ | refine VOh_cond ?_ ?_ | refine VOi_cond ?_ ?_ | refine And.intro ?_ ?_) <;> intro h <;> (try simp only [Bool.not_eq_true', Bool.not_eq_false', decide_eq_true_eq, decide_eq_false_iff_not] at h) <;> simp (disch := omega) only [go_sem, ↓reduceIte, reduceCtorEq, pappend, plen, h]) | ((first | refine VCx.call (fo _) rfl ?_ | refine VCy.call (fo _) rfl ?_ | refine VCz.call (fun _ => fo _) rfl ?_ | refine VCk.call (fun _ _ => fo _) rfl ?_ | refine VCj.now (fo _) rfl ?_); simp (disch := omega) only [go_sem, ↓reduceIte, reduceCtorEq, pappend, plen])))
      all_goals (simp_all [slot, Nat.beq] <;> first | rfl | omega | (rw [Bool.eq_iff_iff]; simp; done) | (rw [Bool.eq_iff_iff]; simp; omega))
    (repeat refine PW.seq ?_); refine PW.cond (t := _) rfl (fun h => ?_) (fun h => ?_)
    rotate_left
    · cases h
    (repeat refine PW.seq ?_); refine PW.rg rfl fun K hK => ?_; simp (disch := omega) only [go_sem, ↓reduceIte, reduceCtorEq, pappend, plen]; refine hK _ _ ?_; clear hK K
    refine PW.ret ⟨.tup [.agg [.int .i64 0, .int .i64 0, .slice [] 0 true, .slice [] 0 true, .slice [] 0 true], .int .i64 1], by simp (disch := omega) only [go_sem, ↓reduceIte, reduceCtorEq, pappend, plen, presults, presult, List.mapM_cons, List.mapM_nil, Option.pure_def, Option.bind_eq_bind, Option.bind_some, Array.toList], ?_⟩
    rw [← hr]
    exact Fin.base (fz0 _ _ _)
  rw [hf] at fo
  rw [prdG, hf, Bool.true_and] at hr
  obtain ⟨A, B, a1, a2, b1, b2, ew, eh, ly, lu, lv⟩ := fmd_nat hf
  simp only at ew eh ly lu lv
  subst ew eh
  simp only [fmc] at fo ⊢
  refine CallOk.body (F0 := [(0, .agg [.int .i64 ((2 * A : Nat) : Int), .int .i64 ((2 * B : Nat) : Int), .slice (bs Y) Y.length false, .slice (bs U) U.length false, .slice (bs V) V.length false]), (1, .int .i64 x), (2, .int .i64 y), (3, .int .i64 16), (4, .int .i64 (hg : Int)), (5, .agg [.int .i64 vx, .int .i64 vy])]) Tryz.func165 rfl Tryz.ntmps165 Tryz.results165 rfl (by kernel_rfl) rfl ?_
  (repeat refine PW.seq ?_); refine PW.rg rfl fun K hK => ?_; simp (disch := omega) only [go_sem, ↓reduceIte, reduceCtorEq, pappend, plen]; refine hK _ _ ?_; clear hK K
  (repeat refine PW.seq ?_)
  refine PW.rgv (P := Tryz.prog) [1, 2, 3, 4, 6, 11, 12, 13] 31 (.bool false) ?_ ?_ ?_
  · rfl
  · clear hr
    rcases hgb with rfl | rfl
    all_goals (simp (disch := omega) only [go_sem, ↓reduceIte, reduceCtorEq, pappend, plen]; (repeat' (first | ((first | refine VO_cond ?_ ?_ | refine VOd_cond ?_ ?_ | refine VOg_cond ?_ ?_ | refine VOh_cond ?_ ?_ | refine VOi_cond ?_ ?_ | refine And.intro ?_ ?_) <;> intro h <;> (try simp only [Bool.not_eq_true', Bool.not_eq_false', decide_eq_true_eq, decide_eq_false_iff_not] at h) <;> simp (disch := omega) only [go_sem, ↓reduceIte, reduceCtorEq, pappend, plen, h]) | ((first | refine VCx.call (fo _) rfl ?_ | refine VCy.call (fo _) rfl ?_ | refine VCz.call (fun _ => fo _) rfl ?_ | refine VCk.call (fun _ _ => fo _) rfl ?_ | refine VCj.now (fo _) rfl ?_); simp (disch := omega) only [go_sem, ↓reduceIte, reduceCtorEq, pappend, plen]))))
    all_goals (simp_all [slot, Nat.beq] <;> first | rfl | omega | (rw [Bool.eq_iff_iff]; simp; done) | (rw [Bool.eq_iff_iff]; simp; omega))
  (repeat refine PW.seq ?_); refine PW.cond (t := _) rfl (fun h => ?_) (fun h => ?_)
  · cases h
  refine PW.skip ?_
  (repeat refine PW.seq ?_)
  refine PW.rgv (P := Tryz.prog) [1, 2, 3, 4, 6, 11, 12, 13] 64 (.bool (!(pinB ⟨((2 * A : Nat) : Int), ((2 * B : Nat) : Int), Y, U, V⟩ x y hg))) ?_ ?_ ?_
  · rfl
  · clear hr fo vo
    simp (disch := omega) only [go_sem, ↓reduceIte, reduceCtorEq, pappend, plen]; (repeat' ((first | refine VO_cond ?_ ?_ | refine VOd_cond ?_ ?_ | refine VOg_cond ?_ ?_ | refine VOh_cond ?_ ?_ | refine VOi_cond ?_ ?_ | refine And.intro ?_ ?_) <;> intro h <;> (try simp only [Bool.not_eq_true', Bool.not_eq_false', decide_eq_true_eq, decide_eq_false_iff_not] at h) <;> simp (disch := omega) only [go_sem, ↓reduceIte, reduceCtorEq, pappend, plen, tmod_pos, h]))
    all_goals (simp_all [pinB, slot, Nat.beq] <;> first | rfl | omega | (rw [Bool.eq_iff_iff]; simp; done) | (rw [Bool.eq_iff_iff]; simp; omega))
  (repeat refine PW.seq ?_); refine PW.cond (t := _) rfl (fun h => ?_) (fun h => ?_)
  · have hp : pinB ⟨((2 * A : Nat) : Int), ((2 * B : Nat) : Int), Y, U, V⟩ x y hg = false := by simpa using h
    rw [hp, if_neg (by simp)] at hr
    (repeat refine PW.seq ?_); refine PW.rg rfl fun K hK => ?_; simp (disch := omega) only [go_sem, ↓reduceIte, reduceCtorEq, pappend, plen]; refine hK _ _ ?_; clear hK K
    refine PW.ret ⟨.tup [.agg [.int .i64 0, .int .i64 0, .slice [] 0 true, .slice [] 0 true, .slice [] 0 true], .int .i64 1], by simp (disch := omega) only [go_sem, ↓reduceIte, reduceCtorEq, pappend, plen, presults, presult, List.mapM_cons, List.mapM_nil, Option.pure_def, Option.bind_eq_bind, Option.bind_some, Array.toList], ?_⟩
    rw [← hr]
    exact Fin.base (fz0 _ _ _)
  have hp : pinB ⟨((2 * A : Nat) : Int), ((2 * B : Nat) : Int), Y, U, V⟩ x y hg = true := by simpa using h
  rw [hp, if_pos rfl] at hr
  refine PW.skip ?_
  (repeat refine PW.seq ?_); refine PW.rg rfl fun K hK => ?_; simp (disch := omega) only [go_sem, ↓reduceIte, reduceCtorEq, pappend, plen]; refine VCx.call (vo _) rfl ?_; simp (disch := omega) only [go_sem, ↓reduceIte, reduceCtorEq, pappend, plen]; refine hK _ _ ?_; clear hK K
  (repeat refine PW.seq ?_); refine PW.cond (t := _) rfl (fun h => ?_) (fun h => ?_)
  · have hv : vrg vx vy = false := by simpa using h
    rw [hv, if_neg (by simp)] at hr
    (repeat refine PW.seq ?_); refine PW.rg rfl fun K hK => ?_; simp (disch := omega) only [go_sem, ↓reduceIte, reduceCtorEq, pappend, plen]; refine hK _ _ ?_; clear hK K
    refine PW.ret ⟨.tup [.agg [.int .i64 0, .int .i64 0, .slice [] 0 true, .slice [] 0 true, .slice [] 0 true], .int .i64 2], by simp (disch := omega) only [go_sem, ↓reduceIte, reduceCtorEq, pappend, plen, presults, presult, List.mapM_cons, List.mapM_nil, Option.pure_def, Option.bind_eq_bind, Option.bind_some, Array.toList], ?_⟩
    rw [← hr]
    exact Fin.base (fz0 _ _ _)
  have hv : vrg vx vy = true := by simpa using h
  rw [hv, if_pos rfl] at hr
  refine PW.skip ?_
  have hvb : -63 ≤ vx ∧ vx ≤ 63 ∧ -63 ≤ vy ∧ vy ≤ 63 := by simp [vrg, win] at hv; omega
  simp only [pinB, Bool.and_eq_true, decide_eq_true_eq] at hp
  obtain ⟨p1, p2, p3, p4, p5, p6⟩ := hp
  have d1 : ((2 * A : Nat) : Int).tdiv 2 = (A : Int) := by rw [tdiv_pos _ _ (by omega)]; omega
  have d2 : ((2 * B : Nat) : Int).tdiv 2 = (B : Int) := by rw [tdiv_pos _ _ (by omega)]; omega
  have d3 : x.tdiv 2 = x / 2 := tdiv_pos _ _ (by omega)
  have d4 : y.tdiv 2 = y / 2 := tdiv_pos _ _ (by omega)
  have d5 : (hg : Int).tdiv 2 = ((hg / 2 : Nat) : Int) := by rw [tdiv_pos _ _ (by omega)]; omega
  have d6 : (16 : Int).tdiv 2 = 8 := rfl
  have t1 : -63 ≤ vx.tdiv 2 ∧ vx.tdiv 2 ≤ 63 := by have := tdiv_abs vx 2; omega
  have t2 : -63 ≤ vy.tdiv 2 ∧ vy.tdiv 2 ≤ 63 := by have := tdiv_abs vy 2; omega
  have c1 := fun K => predict_ok Y (2 * A) (2 * B) 16 hg x y vx vy K ly (by omega) (by omega) (by omega) (by omega) (by omega) hvb
  have c2 := fun K => predict_ok U A B 8 (hg / 2) (x / 2) (y / 2) (vx.tdiv 2) (vy.tdiv 2) K lu (by omega) (by omega) (by omega) (by omega) (by omega) (by omega)
  have c3 := fun K => predict_ok V A B 8 (hg / 2) (x / 2) (y / 2) (vx.tdiv 2) (vy.tdiv 2) K lv (by omega) (by omega) (by omega) (by omega) (by omega) (by omega)
  have q1 : (prdF ⟨((2 * A : Nat) : Int), ((2 * B : Nat) : Int), Y, U, V⟩ x y hg vx vy).y = prd Y ((2 * A : Nat) : Int) ((2 * B : Nat) : Int) x y 16 hg vx vy := rfl
  have dA : ((2 * A : Nat) : Int) / 2 = (A : Int) := by omega
  have dB : ((2 * B : Nat) : Int) / 2 = (B : Int) := by omega
  have q2 : (prdF ⟨((2 * A : Nat) : Int), ((2 * B : Nat) : Int), Y, U, V⟩ x y hg vx vy).u = prd U (A : Int) (B : Int) (x / 2) (y / 2) 8 (hg / 2) (vx.tdiv 2) (vy.tdiv 2) := by
    show prd U (((2 * A : Nat) : Int) / 2) (((2 * B : Nat) : Int) / 2) _ _ _ _ _ _ = _
    rw [dA, dB]
  have q3 : (prdF ⟨((2 * A : Nat) : Int), ((2 * B : Nat) : Int), Y, U, V⟩ x y hg vx vy).v = prd V (A : Int) (B : Int) (x / 2) (y / 2) 8 (hg / 2) (vx.tdiv 2) (vy.tdiv 2) := by
    show prd V (((2 * A : Nat) : Int) / 2) (((2 * B : Nat) : Int) / 2) _ _ _ _ _ _ = _
    rw [dA, dB]
  have hc := prdF_c ⟨((2 * A : Nat) : Int), ((2 * B : Nat) : Int), Y, U, V⟩ x y hg vx vy
  rw [q1, q2, q3] at hc
  generalize prd Y ((2 * A : Nat) : Int) ((2 * B : Nat) : Int) x y 16 hg vx vy = PY at c1 hc
  generalize prd U (A : Int) (B : Int) (x / 2) (y / 2) 8 (hg / 2) (vx.tdiv 2) (vy.tdiv 2) = PU at c2 hc
  generalize prd V (A : Int) (B : Int) (x / 2) (y / 2) 8 (hg / 2) (vx.tdiv 2) (vy.tdiv 2) = PV1 at c3 hc
  have hcr : fmc r.1 = [.int .i64 16, .int .i64 (hg : Int), .slice (bs PY) (16 * hg) false, .slice (bs PU) (8 * (hg / 2)) false, .slice (bs PV1) (8 * (hg / 2)) false] := by rw [← hr]; exact hc
  have hcr2 : r.2 = 0 := by rw [← hr]
  simp only [fmc] at hcr
  rw [hcr, hcr2]
  clear hr hrf q1 q2 q3 hc hcr
  (repeat refine PW.seq ?_); refine PW.rg rfl fun K hK => ?_; simp (disch := omega) only [go_sem, ↓reduceIte, reduceCtorEq, pappend, plen]; refine hK _ _ ?_; clear hK K
  (repeat refine PW.seq ?_); refine PW.rg rfl fun K hK => ?_; simp (disch := omega) only [go_sem, ↓reduceIte, reduceCtorEq, pappend, plen, d3, d4, d5, d6]; refine hK _ _ ?_; clear hK K
  (repeat refine PW.seq ?_); refine PW.draw mix (by kernel_rfl) fun K hK => ?_; simp (disch := omega) only [go_sem, ↓reduceIte, reduceCtorEq, pappend, plen, d1, d2]
  (repeat' (first | ((first | refine VO_cond ?_ ?_ | refine VOd_cond ?_ ?_ | refine VOg_cond ?_ ?_ | refine VOh_cond ?_ ?_ | refine VOi_cond ?_ ?_ | refine And.intro ?_ ?_) <;> intro h <;> (try simp only [Bool.not_eq_true', Bool.not_eq_false', decide_eq_true_eq, decide_eq_false_iff_not] at h) <;> simp (disch := omega) only [go_sem, ↓reduceIte, reduceCtorEq, pappend, plen, d1, d2, h]) | ((first | refine VCx.call (c1 _) rfl ?_ | refine VCx.call (c2 _) rfl ?_ | refine VCx.call (c3 _) rfl ?_ | refine VCy.call (c1 _) rfl ?_ | refine VCy.call (c2 _) rfl ?_ | refine VCy.call (c3 _) rfl ?_ | refine VCz.call (fun _ => c1 _) rfl ?_ | refine VCz.call (fun _ => c2 _) rfl ?_ | refine VCz.call (fun _ => c3 _) rfl ?_ | refine VCk.call (fun _ _ => c1 _) rfl ?_ | refine VCk.call (fun _ _ => c2 _) rfl ?_ | refine VCk.call (fun _ _ => c3 _) rfl ?_ | refine VCj.now (c1 _) rfl ?_ | refine VCj.now (c2 _) rfl ?_ | refine VCj.now (c3 _) rfl ?_); simp (disch := omega) only [go_sem, ↓reduceIte, reduceCtorEq, pappend, plen, d1, d2])))
  refine hK _ _ ?_; clear hK K
  refine PW.ret ⟨.tup [.agg [.int .i64 16, .int .i64 (hg : Int), .slice (bs PY) (16 * hg) false, .slice (bs PU) (8 * (hg / 2)) false, .slice (bs PV1) (8 * (hg / 2)) false], .int .i64 0], by simp (disch := omega) only [go_sem, ↓reduceIte, reduceCtorEq, pappend, plen, presults, presult, List.mapM_cons, List.mapM_nil, Option.pure_def, Option.bind_eq_bind, Option.bind_some, Array.toList], ?_⟩
  exact Fin.base (.id (fe_scoped _ _ _ _ _ _ _ _ _ _))

/-- Two predictions of one macroblock. -/
theorem mnF_c {a : Fm} (h : F16 a) (b : Fm) : fmc (mnF a b) = [.int .i64 16, .int .i64 16, .slice (bs (mnb a.y b.y)) 256 false, .slice (bs (mnb a.u b.u)) 64 false, .slice (bs (mnb a.v b.v)) 64 false] := by
  have h' := mnF_16 h b
  unfold fmc
  rw [h'.ly, h'.lu, h'.lv, h'.w, h'.h]
  rfl
set_option maxHeartbeats 1600000 in
theorem average_ok (a b : Fm) (ha : F16 a) (hb : F16 b) (H : Heap) : CallOk Tryz.prog 167 [.agg (fmc a), .agg (fmc b)] H (.tup [.agg (fmc (mnF a b)), .int .i64 0]) H := by
  have fa := fun K => formed_ok a K
  have fb := fun K => formed_ok b K
  have va := ha.fvd
  have vb := hb.fvd
  unfold fvd at va vb
  rw [Bool.and_eq_true] at va vb
  rw [va.1] at fa
  rw [vb.1] at fb
  rw [mnF_c ha]
  obtain ⟨w, ht, y, u, v⟩ := a
  obtain ⟨w', ht', y', u', v'⟩ := b
  obtain ⟨hw, hh, l1, l2, l3⟩ := ha
  obtain ⟨hw', hh', l1', l2', l3'⟩ := hb
  simp only at hw hh l1 l2 l3 hw' hh' l1' l2' l3'
  subst hw hh hw' hh'
  have m1 := fun K => mean_ok y y' false false K (by omega) (by omega)
  have m2 := fun K => mean_ok u u' false false K (by omega) (by omega)
  have m3 := fun K => mean_ok v v' false false K (by omega) (by omega)
  simp only [fmc, l1, l2, l3, l1', l2', l3'] at fa fb m1 m2 m3 ⊢
  refine CallOk.body (F0 := [(0, .agg [.int .i64 16, .int .i64 16, .slice (bs y) 256 false, .slice (bs u) 64 false, .slice (bs v) 64 false]), (1, .agg [.int .i64 16, .int .i64 16, .slice (bs y') 256 false, .slice (bs u') 64 false, .slice (bs v') 64 false])]) Tryz.func167 rfl Tryz.ntmps167 Tryz.results167 rfl (by kernel_rfl) rfl ?_
  (repeat refine PW.seq ?_); refine PW.rg rfl fun K hK => ?_; simp (disch := omega) only [go_sem, ↓reduceIte, reduceCtorEq, pappend, plen]; refine hK _ _ ?_; clear hK K
  (repeat refine PW.seq ?_)
  refine PW.rgv (P := Tryz.prog) [2, 3, 4] 27 (.bool false) ?_ ?_ ?_
  · rfl
  · simp (disch := omega) only [go_sem, ↓reduceIte, reduceCtorEq, pappend, plen]; (repeat' (first | ((first | refine VO_cond ?_ ?_ | refine VOd_cond ?_ ?_ | refine VOg_cond ?_ ?_ | refine VOh_cond ?_ ?_ | refine VOi_cond ?_ ?_ | refine And.intro ?_ ?_) <;> intro h <;> (try simp only [Bool.not_eq_true', Bool.not_eq_false', decide_eq_true_eq, decide_eq_false_iff_not] at h) <;> simp (disch := omega) only [go_sem, ↓reduceIte, reduceCtorEq, pappend, plen, h]) | ((first | refine VCx.call (fa _) rfl ?_ | refine VCx.call (fb _) rfl ?_ | refine VCy.call (fa _) rfl ?_ | refine VCy.call (fb _) rfl ?_ | refine VCz.call (fun _ => fa _) rfl ?_ | refine VCz.call (fun _ => fb _) rfl ?_ | refine VCk.call (fun _ _ => fa _) rfl ?_ | refine VCk.call (fun _ _ => fb _) rfl ?_ | refine VCj.now (fa _) rfl ?_ | refine VCj.now (fb _) rfl ?_); simp (disch := omega) only [go_sem, ↓reduceIte, reduceCtorEq, pappend, plen])))
    all_goals (simp_all [slot, Nat.beq] <;> first | rfl | omega | (rw [Bool.eq_iff_iff]; simp; done) | (rw [Bool.eq_iff_iff]; simp; omega))
  (repeat refine PW.seq ?_); refine PW.cond (t := _) rfl (fun h => ?_) (fun h => ?_)
  · cases h
  refine PW.skip ?_
  (repeat refine PW.seq ?_); refine PW.draw mix (by kernel_rfl) fun K hK => ?_; simp (disch := omega) only [go_sem, ↓reduceIte, reduceCtorEq, pappend, plen]
  (repeat' (first | ((first | refine VO_cond ?_ ?_ | refine VOd_cond ?_ ?_ | refine VOg_cond ?_ ?_ | refine VOh_cond ?_ ?_ | refine VOi_cond ?_ ?_ | refine And.intro ?_ ?_) <;> intro h <;> (try simp only [Bool.not_eq_true', Bool.not_eq_false', decide_eq_true_eq, decide_eq_false_iff_not] at h) <;> simp (disch := omega) only [go_sem, ↓reduceIte, reduceCtorEq, pappend, plen, h]) | ((first | refine VCx.call (m1 _) rfl ?_ | refine VCx.call (m2 _) rfl ?_ | refine VCx.call (m3 _) rfl ?_ | refine VCy.call (m1 _) rfl ?_ | refine VCy.call (m2 _) rfl ?_ | refine VCy.call (m3 _) rfl ?_ | refine VCz.call (fun _ => m1 _) rfl ?_ | refine VCz.call (fun _ => m2 _) rfl ?_ | refine VCz.call (fun _ => m3 _) rfl ?_ | refine VCk.call (fun _ _ => m1 _) rfl ?_ | refine VCk.call (fun _ _ => m2 _) rfl ?_ | refine VCk.call (fun _ _ => m3 _) rfl ?_ | refine VCj.now (m1 _) rfl ?_ | refine VCj.now (m2 _) rfl ?_ | refine VCj.now (m3 _) rfl ?_); simp (disch := omega) only [go_sem, ↓reduceIte, reduceCtorEq, pappend, plen])))
  refine hK _ _ ?_; clear hK K
  refine PW.ret ⟨.tup [.agg [.int .i64 16, .int .i64 16, .slice (bs (mnb y y')) 256 false, .slice (bs (mnb u u')) 64 false, .slice (bs (mnb v v')) 64 false], .int .i64 0], by simp (disch := omega) only [go_sem, ↓reduceIte, reduceCtorEq, pappend, plen, presults, presult, List.mapM_cons, List.mapM_nil, Option.pure_def, Option.bind_eq_bind, Option.bind_some, Array.toList], ?_⟩
  exact Fin.base (.id (fe_scoped _ _ _ _ _ _ _ _ _ _))

end Go.Proofs.YtahomnplappbpaaGreatDoor.Sc

namespace Go.Proofs.YtahomnplappbpaaGreatDoor.Sc
set_option linter.all false
set_option linter.unusedVariables false
set_option linter.unusedSimpArgs false
open Pm Ty Go.RowKit

theorem mbc_cdA (m : Mb) : List.take 6 (List.drop 18 (mbc m)) = fs (cdl m) := rfl
theorem mbc_fdA (m : Mb) : (mbc m)[4]? = some (.bool m.fd) := rfl
theorem mbc_lvl (m : Mb) (n : Nat) : List.take 64 (List.drop (24 + n * 64) (mbc m)) = is (lvl m.lv n) := by
  rw [show 24 + n * 64 = n * 64 + 24 by omega]
  show List.take 64 (List.drop (n * 64) (is m.lv)) = _
  rw [is_drop, is_take]; rfl
theorem mbc_lenA (m : Mb) (hl : m.lv.length = 384) : (mbc m).length = 408 := by simp [mbc, is, hl]
theorem lvl_len (lv : List Int) (n : Nat) (hl : lv.length = 384) (hn : n < 6) : (lvl lv n).length = 64 := by simp [lvl, hl]; omega
/-- Levels within the documented range. -/
def lrm (lv : List Int) : Prop := ∀ i, -4095 ≤ intAt lv i ∧ intAt lv i ≤ 4095
theorem lvl_rg {lv : List Int} (h : lrm lv) (n : Nat) : lrg (lvl lv n) := fun i => by
  unfold lvl intAt
  rw [List.getD_eq_getElem?_getD, List.getElem?_take]
  split
  · rw [List.getElem?_drop]
    have := h (n * 64 + i)
    unfold intAt at this
    rw [List.getD_eq_getElem?_getD] at this
    exact this
  · simp
theorem lrm_of {lv : List Int} (hl : lv.length = 384) (h : lvr lv = true) : lrm lv := fun i => by
  by_cases hi : i < 384
  · have := List.all_eq_true.1 h i (List.mem_range.2 hi)
    simp [win] at this; omega
  · unfold intAt
    rw [List.getD_eq_getElem?_getD, List.getElem?_eq_none (by omega)]
    simp
theorem frs_len (l : List Int) (al : Bool) : (frs l al).length = 64 := frn_len _ _ _
theorem frs_rg {l : List Int} (h : lrg l) (al : Bool) : lrg (frs l al) := fun i => intAt_bd (B := 4095) (by omega) (frn_mem (by omega) (fun i => by have := h i; omega) 64) i
theorem dqz_len (l : List Int) (m : List UInt8) (q : Int) : (dqz l m q).length = 64 := rgI_len _ _
theorem inv_len (y : List Int) : (inv y).length = 64 := rgI_len _ _
/-- A block to which the first k residuals have been added. -/
def adk (d b : List Int) (k : Nat) : List Int := rgI 64 fun j => if j < k then intAt d j + intAt b j else intAt b j
theorem adk_len (d b : List Int) (k : Nat) : (adk d b k).length = 64 := rgI_len _ _
theorem adk_0 {d b : List Int} (h : b.length = 64) : adk d b 0 = b := by
  have : adk d b 0 = rgI 64 (intAt b) := rgI_ext fun j _ => if_neg (by omega)
  rw [this, ← h, rgI_of]
theorem adk_at (d b : List Int) {k : Nat} (h : k < 64) : intAt (adk d b k) k = intAt b k := by rw [adk, rgI_at _ h, if_neg (by omega)]
theorem adk_set (d b : List Int) (k : Nat) : (adk d b k).set k (intAt b k + intAt d k) = adk d b (k + 1) := by
  rw [adk, rgI_set]
  refine rgI_ext fun j hj => ?_
  by_cases h1 : j = k
  · rw [if_pos h1, if_pos (by omega), h1, Int.add_comm]
  · rw [if_neg h1]
    by_cases h2 : j < k
    · rw [if_pos h2, if_pos (by omega)]
    · rw [if_neg h2, if_neg (by omega)]
theorem adk_end (d b : List Int) : adk d b 64 = rgI 64 fun k => intAt d k + intAt b k := rgI_ext fun j hj => if_pos hj
theorem blk_bd (p : List UInt8) (n : Nat) (fd : Bool) (k : Nat) : 0 ≤ intAt (blk p n fd) k ∧ intAt (blk p n fd) k ≤ 255 := by
  by_cases h : k < 64
  · rw [blk, rgI_at _ h]; exact byt_range _ _
  · have hl : (blk p n fd).length = 64 := rgI_len _ _
    unfold intAt
    rw [List.getD_eq_getElem?_getD, List.getElem?_eq_none (by omega)]
    simp

set_option maxHeartbeats 6400000 in
set_option maxRecDepth 100000 in
theorem add_ok (f : Fm) (hf : F16 f) (m : Mb) (i : Nat) (mat : List UInt8) (q : Int) (al : Bool) (H : Heap) (hi : H[i]? = some (mB m)) (hml : m.lv.length = 384) (hlr : lrm m.lv) (hm : mat.length = 64) (hmx : mxOk mat = true) (hq : qnB q = true) :
    CallOk Tryz.prog 80 [.agg (fmc f), .ptr i 0 0, .agg (bs mat), .int .i64 q, .bool al] H (.tup [.agg (fmc (addN m al mat q f 6)), .int .i64 0]) H := by
  have hil := (List.getElem?_eq_some_iff.1 hi).1
  have hx := fun K => get_ext (K := K) hi
  have e1 := mbc_cdA m
  have e2 := mbc_fdA m
  have e3 := fun n => mbc_lvl m n
  have e4 := mbc_lenA m hml
  have hcl : (cdl m).length = 6 := rfl
  have hcl2 : (fs (cdl m)).length = 6 := rfl
  have hg := fun n (hn : n < 6) => fs_get (cdl m) n hn
  have hcm : (bs mat).all PV.cell = true := by simp [bs, PV.cell]
  have tkm : List.take 64 (bs mat) = bs mat := List.take_of_length_le (by rw [length_bs]; omega)
  have lm : (bs mat).length = 64 := by rw [length_bs, hm]
  refine CallOk.body (F0 := [(0, .agg (fmc f)), (1, .ptr i 0 0), (2, .agg (bs mat)), (3, .int .i64 q), (4, .bool al)]) Tryz.func80 rfl Tryz.ntmps80 Tryz.results80 rfl (by kernel_rfl) rfl ?_
  have f5 : (fmc f).all PV.cell = true := rfl
  (repeat refine PW.seq ?_); refine PW.rg rfl fun K hK => ?_; simp (disch := omega) only [go_sem, ↓reduceIte, reduceCtorEq, pappend, plen, hcm, f5]; refine hK _ _ ?_; clear hK K
  (repeat refine PW.seq ?_); refine PW.rg rfl fun K hK => ?_; simp (disch := omega) only [go_sem, ↓reduceIte, reduceCtorEq, pappend, plen, hi, hx, mB, e1, e4]; refine hK _ _ ?_; clear hK K
  (repeat refine PW.seq ?_); refine PW.block (PW.loop ?_)
  suffices h1 : ∀ n : Nat, n ≤ 6 → PL Tryz.prog _ _ [(1, .ptr i 0 0), (3, .int .i64 q), (4, .bool al), (5, .ptr H.length 0 0), (7, .ptr (H.length + 1) 0 0), (10, .ptr (H.length + 2) 0 0), (22, .agg (fs (cdl m))), (23, .int .i64 (n : Int))] (H ++ [⟨53, 0, fmc (addN m al mat q f n)⟩, ⟨36, 0, bs mat⟩, ⟨53, 0, [.int .i64 0, .int .i64 0, .slice [] 0 true, .slice [] 0 true, .slice [] 0 true]⟩]) _ by
    exact PL.at [1, 3, 4, 5, 7, 10, 22, 23] (h1 0 (by omega)) rfl rfl
  refine cnt 6 (fun n hn ih => ?_) ?_
  · have ct := lt_t hn
    refine PL.round ?_; (repeat refine PW.seq ?_); refine PW.rg rfl fun K hK => ?_; simp (disch := omega) only [go_sem, ↓reduceIte, reduceCtorEq, pappend, plen]; refine hK _ _ ?_; clear hK K; (repeat refine PW.seq ?_); refine PW.cond (t := _) rfl (fun h => ?_) (fun h => ?_)
    rotate_left
    · cases h
    refine PW.skip ?_; (repeat refine PW.seq ?_); refine PW.block ?_
    (repeat refine PW.seq ?_); refine PW.rg rfl fun K hK => ?_; simp (disch := omega) only [go_sem, ↓reduceIte, reduceCtorEq, pappend, plen, hg, hcl2]; refine hK _ _ ?_; clear hK K
    (repeat refine PW.seq ?_); refine PW.rg rfl fun K hK => ?_; simp (disch := omega) only [go_sem, ↓reduceIte, reduceCtorEq, pappend, plen]; refine hK _ _ ?_; clear hK K
    (repeat refine PW.seq ?_); refine PW.cond (t := _) rfl (fun h => ?_) (fun h => ?_)
    · have hc : flagAt (cdl m) n = false := by simpa using h
      rw [addN, hc, if_neg (by simp)] at ih
      refine PW.exit ?_
      (repeat refine PW.seq ?_); refine PW.rg rfl fun K hK => ?_; simp (disch := omega) only [go_sem, ↓reduceIte, reduceCtorEq, pappend, plen]; refine hK _ _ ?_; clear hK K
      exact PL.at [1, 3, 4, 5, 7, 10, 22, 23] ih rfl rfl
    have hc : flagAt (cdl m) n = true := by simpa using h
    rw [addN, hc, if_pos rfl] at ih
    have g16 := hf.addN m al mat q n (by omega)
    obtain ⟨g, hgg⟩ : ∃ g, addN m al mat q f n = g := ⟨_, rfl⟩
    rw [hgg] at g16 ih ⊢
    have g7 : (fmc g).length = 5 := rfl
    have g8 : List.take 5 (fmc g) = fmc g := rfl
    have ll := lvl_len m.lv n hml hn
    have lr := lvl_rg hlr n
    have c1 := fun K => fromScan_ok (lvl m.lv n) al ll K
    have c2 := fun K => dequant_ok (frs (lvl m.lv n) al) mat q (frs_len _ _) (frs_rg lr al) hm hmx hq K
    have hr : rsd m.lv al mat q n = inv (dqz (frs (lvl m.lv n) al) mat q) := rfl
    have c3 := fun K => inverse_ok (dqz (frs (lvl m.lv n) al) mat q) (dqz_len _ _ _) K
    rw [← hr] at c3
    have il : (rsd m.lv al mat q n).length = 64 := inv_len _
    have ib := fun k => inv_bd (dqz (frs (lvl m.lv n) al) mat q) k
    rw [← hr] at ib
    have dl := dqz_len (frs (lvl m.lv n) al) mat q
    have dcel := is_cell (dqz (frs (lvl m.lv n) al) mat q)
    generalize dqz (frs (lvl m.lv n) al) mat q = D at c2 c3 dl dcel
    have tkD : List.take 64 (is D) = is D := List.take_of_length_le (by rw [is_len]; omega)
    generalize frs (lvl m.lv n) al = S at c1 c2
    generalize rsd m.lv al mat q n = I at c3 il ib ih
    clear hr
    have c4 := fun K => block_ok g g16 n hn m.fd K
    have bb := fun k => blk_bd (cmp g n) n m.fd k
    have bl : (blk (cmp g n) n m.fd).length = 64 := rgI_len _ _
    have bcel := is_cell (blk (cmp g n) n m.fd)
    refine PW.skip ?_
    refine PW.view (Vs.place 47) ?_
    (repeat refine PW.seq ?_); refine PW.drawi [H.length + 3] [(14, [0])] [(14, 0)] [37, 40] mix (by kernel_rfl) (by simp <;> omega) fun K hK => ?_
    simp (disch := omega) only [go_sem, ↓reduceIte, reduceCtorEq, pappend, plen, arith, hi, hx, mB, e3, e4]
    refine VCj.read (fun _ _ => c1 _) rfl ?_
    simp (disch := omega) only [go_sem, ↓reduceIte, reduceCtorEq, pappend, plen, arith, hi, hx, mB, e3, e4, lm, tkm]
    refine VCj.read (fun _ _ => c2 _) rfl ?_
    simp (disch := omega) only [go_sem, ↓reduceIte, reduceCtorEq, pappend, plen, is_len, dl, dcel]
    refine hK _ _ ?_; clear hK K
    (repeat refine PW.seq ?_); refine PW.rg rfl fun K hK => ?_; simp (disch := omega) only [go_sem, ↓reduceIte, reduceCtorEq, pappend, plen]; refine hK _ _ ?_; clear hK K
    (repeat refine PW.seq ?_); refine PW.cond (t := _) rfl (fun h => ?_) (fun h => ?_)
    · cases h
    refine PW.skip ?_
    refine PW.view (Vs.place 47) ?_
    (repeat refine PW.seq ?_); refine PW.drawi [H.length + 4] [(16, [0])] [(16, 0)] [54] mix (by kernel_rfl) (by simp <;> omega) fun K hK => ?_
    simp (disch := omega) only [go_sem, ↓reduceIte, reduceCtorEq, pappend, plen, arith, hi, hx, mB, e2, e4, g7, g8]
    refine VCj.read (fun _ _ => c4 _) rfl ?_
    simp (disch := omega) only [go_sem, ↓reduceIte, reduceCtorEq, pappend, plen, is_len, bl, bcel]
    refine hK _ _ ?_; clear hK K
    (repeat refine PW.seq ?_); refine PW.rg rfl fun K hK => ?_; simp (disch := omega) only [go_sem, ↓reduceIte, reduceCtorEq, pappend, plen]; refine hK _ _ ?_; clear hK K
    (repeat refine PW.seq ?_); refine PW.cond (t := _) rfl (fun h => ?_) (fun h => ?_)
    · cases h
    refine PW.skip ?_
    (repeat refine PW.seq ?_); refine PW.rg rfl fun K hK => ?_; simp (disch := omega) only [go_sem, ↓reduceIte, reduceCtorEq, pappend, plen, is_len, dl, tkD]; refine VCx.call (c3 _) rfl ?_; simp (disch := omega) only [go_sem, ↓reduceIte, reduceCtorEq, pappend, plen, is_len, dl, tkD]; refine hK _ _ ?_; clear hK K
    (repeat refine PW.seq ?_); refine PW.block (PW.loop ?_)
    suffices h2 : ∀ k : Nat, k ≤ 64 → PL Tryz.prog _ _ [(1, .ptr i 0 0), (3, .int .i64 q), (4, .bool al), (5, .ptr H.length 0 0), (7, .ptr (H.length + 1) 0 0), (10, .ptr (H.length + 2) 0 0), (12, .int .i64 (n : Int)), (16, .ptr (H.length + 4) 1 0), (22, .agg (fs (cdl m))), (23, .int .i64 (n : Int)), (62, .agg (is I)), (63, .int .i64 (k : Int))] (H ++ [⟨53, 0, fmc g⟩, ⟨36, 0, bs mat⟩, ⟨53, 0, [.int .i64 0, .int .i64 0, .slice [] 0 true, .slice [] 0 true, .slice [] 0 true]⟩, ⟨47, 1, is D⟩, ⟨47, 1, is (adk I (blk (cmp g n) n m.fd) k)⟩]) _ by
      exact PL.at [1, 3, 4, 5, 7, 10, 12, 16, 22, 23, 62, 63] (h2 0 (by omega)) rfl (by rw [adk_0 bl])
    refine cnt 64 (fun k hk ih2 => ?_) ?_
    · refine PL.round ?_; (repeat refine PW.seq ?_); refine PW.rg rfl fun K hK => ?_; simp (disch := omega) only [go_sem, ↓reduceIte, reduceCtorEq, pappend, plen]; refine hK _ _ ?_; clear hK K; (repeat refine PW.seq ?_); refine PW.cond (t := _) rfl (fun h => ?_) (fun h => ?_)
      rotate_left
      · cases h
      have b1 := bb k
      have b2 := ib k
      have a1 := adk_at I (blk (cmp g n) n m.fd) hk
      have a2 := adk_set I (blk (cmp g n) n m.fd) k
      have a3 := adk_len I (blk (cmp g n) n m.fd) k
      have a4 : ∀ v, ((is (adk I (blk (cmp g n) n m.fd) k)).set k v).length = 64 := fun v => by simp [is_len, a3]
      refine PW.skip ?_; (repeat refine PW.seq ?_); refine PW.block ?_
      (repeat refine PW.seq ?_); refine PW.rg rfl fun K hK => ?_; simp (disch := omega) only [go_sem, ↓reduceIte, reduceCtorEq, pappend, plen, is_get, is_len, il]; refine hK _ _ ?_; clear hK K
      (repeat refine PW.seq ?_); refine PW.rg rfl fun K hK => ?_; simp (disch := omega) only [go_sem, ↓reduceIte, reduceCtorEq, pappend, plen, is_get, is_len, a3, a1, is_set, a2, a4]; refine hK _ _ ?_; clear hK K
      (repeat refine PW.seq ?_); refine PW.rg rfl fun K hK => ?_; simp (disch := omega) only [go_sem, ↓reduceIte, reduceCtorEq, pappend, plen]; refine hK _ _ ?_; clear hK K
      exact PL.at [1, 3, 4, 5, 7, 10, 12, 16, 22, 23, 62, 63] ih2 rfl rfl
    refine PL.round ?_; (repeat refine PW.seq ?_); refine PW.rg rfl fun K hK => ?_; simp (disch := omega) only [go_sem, ↓reduceIte, reduceCtorEq, pappend, plen]; refine hK _ _ ?_; clear hK K; (repeat refine PW.seq ?_); refine PW.cond (t := _) rfl (fun h => ?_) (fun h => ?_)
    · cases h
    refine PW.exit ?_
    rw [adk_end]
    have xl : (rgI 64 fun k => intAt I k + intAt (blk (cmp g n) n m.fd) k).length = 64 := rgI_len _ _
    have c5 := fun K => setBlock_ok g g16 n hn m.fd (rgI 64 fun k => intAt I k + intAt (blk (cmp g n) n m.fd) k) xl K
    have e5 : stc' g n (setb (cmp g n) n m.fd (rgI 64 fun k => intAt I k + intAt (blk (cmp g n) n m.fd) k)) = addB g n m.fd I := rfl
    rw [e5] at c5
    generalize (rgI 64 fun k => intAt I k + intAt (blk (cmp g n) n m.fd) k) = X at xl c5
    have xt : List.take 64 (is X) = is X := List.take_of_length_le (by rw [is_len]; omega)
    generalize addB g n m.fd I = g' at c5 ih
    have g5 : (fmc g').all PV.cell = true := rfl
    have g6 : (fmc g').length = 5 := rfl
    have g9 : List.drop 5 (fmc g) = [] := rfl
    (repeat refine PW.seq ?_); refine PW.drawi [H.length] [(5, [0])] [] [82] mix (by kernel_rfl) (by simp <;> omega) fun K hK => ?_
    simp (disch := omega) only [go_sem, ↓reduceIte, reduceCtorEq, pappend, plen, arith, hi, hx, mB, e2, e4, is_len, xl, xt, g7, g8]
    refine VCj.read (fun _ _ => c5 _) rfl ?_
    simp (disch := omega) only [go_sem, ↓reduceIte, reduceCtorEq, pappend, plen, g5, g6, g7, g8, g9]
    refine hK _ _ ?_; clear hK K
    (repeat refine PW.seq ?_); refine PW.rg rfl fun K hK => ?_; simp (disch := omega) only [go_sem, ↓reduceIte, reduceCtorEq, pappend, plen]; refine hK _ _ ?_; clear hK K
    (repeat refine PW.seq ?_); refine PW.cond (t := _) rfl (fun h => ?_) (fun h => ?_)
    · cases h
    refine PW.skip ?_
    (repeat refine PW.seq ?_); refine PW.rg rfl fun K hK => ?_; simp (disch := omega) only [go_sem, ↓reduceIte, reduceCtorEq, pappend, plen]; refine hK _ _ ?_; clear hK K
    refine PL.view (Vs.trim (F1 := [(1, .ptr i 0 0), (3, .int .i64 q), (4, .bool al), (5, .ptr H.length 0 0), (7, .ptr (H.length + 1) 0 0), (10, .ptr (H.length + 2) 0 0), (22, .agg (fs (cdl m))), (23, .int .i64 ((n + 1 : Nat) : Int))]) (H1 := H ++ [⟨53, 0, fmc g'⟩, ⟨36, 0, bs mat⟩, ⟨53, 0, [.int .i64 0, .int .i64 0, .slice [] 0 true, .slice [] 0 true, .slice [] 0 true]⟩]) (hscW ?_) (by simp) (List.append_assoc _ [_, _, _] [_, _]).symm ?_) ih
    · intro b hb z hz
      simp only [List.mem_cons, List.not_mem_nil, or_false] at hb
      rcases hb with rfl | rfl | rfl
      · exact fr_sc _ _ _ _ _ _ _ _ _ _ _ _ z hz
      · exact bs_scoped _ _ z hz
      · exact fr_sc _ 0 0 [] [] [] _ _ _ _ _ _ z hz
    · rw [hl3]
      exact ⟨.id (.ptr (by omega)), .id (.int _ _), .id (.bool _), .id (.ptr (by omega)), .id (.ptr (by omega)), .id (.ptr (by omega)), .id (ag_scoped (fs_scoped _ _)), .id (.int _ _), trivial⟩
  refine PL.round ?_; (repeat refine PW.seq ?_); refine PW.rg rfl fun K hK => ?_; simp (disch := omega) only [go_sem, ↓reduceIte, reduceCtorEq, pappend, plen]; refine hK _ _ ?_; clear hK K; (repeat refine PW.seq ?_); refine PW.cond (t := _) rfl (fun h => ?_) (fun h => ?_)
  · cases h
  refine PW.exit ?_
  obtain ⟨g, hgg⟩ : ∃ g, addN m al mat q f 6 = g := ⟨_, rfl⟩
  rw [hgg]
  have g5 : (fmc g).all PV.cell = true := rfl
  have g7 : (fmc g).length = 5 := rfl
  have g8 : List.take 5 (fmc g) = fmc g := rfl
  have g9 : List.drop 5 [PV.int .i64 0, PV.int .i64 0, PV.slice [] 0 true, PV.slice [] 0 true, PV.slice [] 0 true] = [] := rfl
  (repeat refine PW.seq ?_); refine PW.rg rfl fun K hK => ?_; simp (disch := omega) only [go_sem, ↓reduceIte, reduceCtorEq, pappend, plen, g5, g7, g8, g9]; refine hK _ _ ?_; clear hK K
  refine PW.ret ⟨.tup [.agg (fmc g), .int .i64 0], by simp (disch := omega) only [go_sem, ↓reduceIte, reduceCtorEq, pappend, plen, presults, presult, List.mapM_cons, List.mapM_nil, Option.pure_def, Option.bind_eq_bind, Option.bind_some, Array.toList, g7, g8], ?_⟩
  exact Fin.base (.id (fe_scoped _ _ _ _ _ _ _ _ _ _))

end Go.Proofs.YtahomnplappbpaaGreatDoor.Sc

namespace Go.Proofs.YtahomnplappbpaaGreatDoor.Sc
set_option linter.all false
set_option linter.unusedVariables false
set_option linter.unusedSimpArgs false
open Pm Ty Go.RowKit

/-! ### skipped macroblocks -/
/-- The frame's sizes as numbers. -/
theorem fvd_nat {f : Fm} (h : fvd f = true) : ∃ A B : Nat, 1 ≤ A ∧ A ≤ 4 ∧ 1 ≤ B ∧ B ≤ 4 ∧ f.w = ((16 * A : Nat) : Int) ∧ f.h = ((16 * B : Nat) : Int) ∧ f.y.length = 16 * A * (16 * B) ∧ f.u.length = 8 * A * (8 * B) ∧ f.v.length = 8 * A * (8 * B) := by
  obtain ⟨w, ht, y, u, v⟩ := f
  simp only [fvd, fmd, Bool.and_eq_true, decide_eq_true_eq] at h
  obtain ⟨⟨hs, hy, hu, hv⟩, hw, hh⟩ := h
  obtain ⟨g1, g2, g3, g4, g5, g6⟩ := fsz_of hs
  obtain ⟨A, hA⟩ : ∃ A : Nat, (w / 16).toNat = A := ⟨_, rfl⟩
  obtain ⟨B, hB⟩ : ∃ B : Nat, (ht / 16).toNat = B := ⟨_, rfl⟩
  have e1 : w = ((16 * A : Nat) : Int) := by omega
  have e2 : ht = ((16 * B : Nat) : Int) := by omega
  have e3 : w / 2 = ((8 * A : Nat) : Int) := by omega
  have e4 : ht / 2 = ((8 * B : Nat) : Int) := by omega
  rw [e3, e4] at hu hv
  rw [e1, e2] at hy
  refine ⟨A, B, by omega, by omega, by omega, by omega, e1, e2, ?_, ?_, ?_⟩
  · exact Int.ofNat_inj.1 (hy.trans (Int.natCast_mul _ _).symm)
  · exact Int.ofNat_inj.1 (hu.trans (Int.natCast_mul _ _).symm)
  · exact Int.ofNat_inj.1 (hv.trans (Int.natCast_mul _ _).symm)
theorem addN_none {m : Mb} {al : Bool} {mat : List UInt8} {q : Int} {f : Fm} (h : ∀ n, flagAt (cdl m) n = false) : ∀ n, addN m al mat q f n = f
  | 0 => rfl
  | n + 1 => by rw [addN, h n, if_neg (by simp), addN_none h n]
theorem stl_flags (c : Cx) : ∀ n, flagAt (cdl (stl c)) n = false := fun n => by
  have : n = 0 ∨ n = 1 ∨ n = 2 ∨ n = 3 ∨ n = 4 ∨ n = 5 ∨ 6 ≤ n := by omega
  rcases this with rfl | rfl | rfl | rfl | rfl | rfl | h
  all_goals first | rfl | (simp [flagAt, cdl, stl, List.getD_eq_getElem?_getD, List.getElem?_eq_none]; done) | skip
  simp only [flagAt, cdl, stl, List.getD_eq_getElem?_getD]
  rw [List.getElem?_eq_none (by simp; omega)]; rfl
/-! ### the distance of frames -/
theorem F16.fmd {f : Fm} (h : F16 f) : fmd f = true := by
  have := h.fvd
  unfold Sc.fvd at this
  rw [Bool.and_eq_true] at this
  exact this.1
end Go.Proofs.YtahomnplappbpaaGreatDoor.Sc
