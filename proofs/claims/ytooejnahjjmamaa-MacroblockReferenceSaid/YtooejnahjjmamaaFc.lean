/-
  Contracts of chapter 7: the fields of a frame; copies and comparisons.
-/
import Derived.Test.YtooejnahjjmamaaFb
namespace Go.Proofs.Ytooejnahjjmamaa.Sc
set_option linter.all false
set_option linter.unusedVariables false
set_option linter.unusedSimpArgs false
open Pm Ty Go.RowKit

/-- A frame whose rows can be parted. -/
def fr4 (V K : Nat) (y u v : List UInt8) : Fm := ⟨((2 * V : Nat) : Int), ((4 * K : Nat) : Int), y, u, v⟩
structure Fok (V K : Nat) (y u v : List UInt8) : Prop where
  rv : 1 ≤ V ∧ V ≤ 32
  rk : 1 ≤ K ∧ K ≤ 16
  ly : y.length = 2 * K * (2 * (2 * V))
  lu : u.length = K * (2 * V)
  lv : v.length = K * (2 * V)
/-- Its field. -/
def fld (V K P : Nat) (y u v : List UInt8) : Fm := ⟨((2 * V : Nat) : Int), ((2 * K : Nat) : Int), ctl y (P * (2 * V)) (2 * (2 * V)) (2 * V) (2 * K), ctl u (P * V) (2 * V) V K, ctl v (P * V) (2 * V) V K⟩
theorem fmd_fr4 {V K : Nat} {y u v : List UInt8} (h : Fok V K y u v) : fmd (fr4 V K y u v) = true := by
  obtain ⟨⟨v1, v2⟩, ⟨k1, k2⟩, hy, hu, hv⟩ := h
  have e1 : ((2 * V : Nat) : Int) / 2 = (V : Int) := by omega
  have e2 : ((4 * K : Nat) : Int) / 2 = ((2 * K : Nat) : Int) := by omega
  have e3 : 2 * K * (2 * (2 * V)) = 2 * V * (4 * K) := by rw [show 2 * (2 * V) = 4 * V by omega, Nat.mul_mul_mul_comm, Nat.mul_mul_mul_comm 2 V 4 K, Nat.mul_comm K V]
  have e4 : K * (2 * V) = V * (2 * K) := by rw [Nat.mul_comm K, Nat.mul_comm 2 V, Nat.mul_assoc]
  have a1 : fsz ((2 * V : Nat) : Int) ((4 * K : Nat) : Int) = true := by
    simp only [fsz, Bool.and_eq_true, decide_eq_true_eq]
    omega
  have a2 : ((2 * V * (4 * K) : Nat) : Int) = ((2 * V : Nat) : Int) * ((4 * K : Nat) : Int) := Int.natCast_mul _ _
  have a3 : ((V * (2 * K) : Nat) : Int) = (V : Int) * ((2 * K : Nat) : Int) := Int.natCast_mul _ _
  simp only [fmd, fr4, a1, e1, e2, hy, hu, hv, e3, e4, a2, a3, decide_true, Bool.and_self]
theorem rows_fit (n w P : Nat) (hP : P ≤ 1) (p : List UInt8) (hp : p.length = n * (2 * w)) : ∀ k, k < n → P * w + k * (2 * w) + w ≤ p.length := fun k hk => by
  have h0 : P * w ≤ w := by
    have : P = 0 ∨ P = 1 := by omega
    rcases this with rfl | rfl <;> simp
  have h1 : (k + 1) * (2 * w) ≤ n * (2 * w) := Nat.mul_le_mul_right _ (by omega)
  rw [Nat.add_mul] at h1
  omega

theorem fe_scoped (n : Nat) (a b : Int) (y u v : List UInt8) (i j k : Nat) (e : Int) : Scoped n (.tup [.agg [.int .i64 a, .int .i64 b, .slice (bs y) i false, .slice (bs u) j false, .slice (bs v) k false], .int .i64 e]) := .tup fun p x hx => by
  have hm := List.mem_of_getElem? hx
  simp only [List.mem_cons, List.not_mem_nil, or_false] at hm
  rcases hm with rfl | rfl
  · refine ag_scoped fun x hx => ?_
    simp only [List.mem_cons, List.not_mem_nil, or_false] at hx
    rcases hx with rfl | rfl | rfl | rfl | rfl
    · exact .int _ _
    · exact .int _ _
    · exact sl_scoped (bs_scoped _ _)
    · exact sl_scoped (bs_scoped _ _)
    · exact sl_scoped (bs_scoped _ _)
  · exact .int _ _

set_option maxHeartbeats 1600000 in
set_option maxRecDepth 10000 in
theorem field_ok (V K P : Nat) (y u v : List UInt8) (H : Heap) (hf : Fok V K y u v) (hP : P ≤ 1) :
    CallOk Try.prog 26 [.agg (fmc (fr4 V K y u v)), .int .i64 (P : Int)] H (.tup [.agg (fmc (fld V K P y u v)), .int .i64 0]) H := by
  have hfd := fun H => formed_ok (fr4 V K y u v) H
  rw [fmd_fr4 hf] at hfd
  obtain ⟨⟨v1, v2⟩, ⟨k1, k2⟩, hy, hu, hv⟩ := hf
  have ly := ctl_len y (P * (2 * V)) (2 * (2 * V)) (2 * V) (2 * K) (rows_fit _ _ _ hP _ hy)
  have lu := ctl_len u (P * V) (2 * V) V K (rows_fit _ _ _ hP _ hu)
  have lv := ctl_len v (P * V) (2 * V) V K (rows_fit _ _ _ hP _ hv)
  have hPV : P * V ≤ 32 ∧ P * (2 * V) ≤ 64 := by
    have : P = 0 ∨ P = 1 := by omega
    rcases this with rfl | rfl <;> simp <;> omega
  have by1 : y.length ≤ 8192 := by
    have : 2 * K * (2 * (2 * V)) ≤ 32 * 128 := Nat.mul_le_mul (by omega) (by omega)
    omega
  have bu1 : u.length ≤ 8192 := by
    have : K * (2 * V) ≤ 16 * 64 := Nat.mul_le_mul (by omega) (by omega)
    omega
  have bv1 : v.length ≤ 8192 := by
    have : K * (2 * V) ≤ 16 * 64 := Nat.mul_le_mul (by omega) (by omega)
    omega
  have c1 := fun H => cut_ok y (P * (2 * V)) (2 * (2 * V)) (2 * V) (2 * K) false H (by omega) (by omega) by1 (rows_fit _ _ _ hP _ hy) (by omega)
  have c2 := fun H => cut_ok u (P * V) (2 * V) V K false H (by omega) (by omega) bu1 (rows_fit _ _ _ hP _ hu) (by omega)
  have c3 := fun H => cut_ok v (P * V) (2 * V) V K false H (by omega) (by omega) bv1 (rows_fit _ _ _ hP _ hv) (by omega)
  generalize hr : fmc (fld V K P y u v) = r
  simp only [fmc, fld, ly, lu, lv] at hr
  simp only [fmc, fr4] at hfd ⊢
  have m4 : ((4 * K : Nat) : Int).tmod 4 = 0 := by rw [tmod_pos _ _ (by omega)]; omega
  have d2 : ((4 * K : Nat) : Int).tdiv 2 = ((2 * K : Nat) : Int) := by rw [tdiv_pos _ _ (by omega)]; omega
  have d3 : ((2 * K : Nat) : Int).tdiv 2 = (K : Int) := by rw [tdiv_pos _ _ (by omega)]; omega
  have d4 : ((2 * V : Nat) : Int).tdiv 2 = (V : Int) := by rw [tdiv_pos _ _ (by omega)]; omega
  have x1 : (P : Int) * ((2 * V : Nat) : Int) = ((P * (2 * V) : Nat) : Int) := by simp
  have x2 : (2 : Int) * ((2 * V : Nat) : Int) = ((2 * (2 * V) : Nat) : Int) := by simp
  have x3 : ((P * (2 * V) : Nat) : Int).tdiv 2 = ((P * V : Nat) : Int) := by
    rw [tdiv_pos _ _ (by omega)]
    have : P = 0 ∨ P = 1 := by omega
    rcases this with rfl | rfl <;> simp <;> omega
  refine CallOk.body (F0 := [(0, .agg [.int .i64 ((2 * V : Nat) : Int), .int .i64 ((4 * K : Nat) : Int), .slice (bs y) y.length false, .slice (bs u) u.length false, .slice (bs v) v.length false]), (1, .int .i64 (P : Int))]) Try.func26 rfl Try.ntmps26 Try.results26 rfl (by kernel_rfl) rfl ?_
  (repeat refine PW.seq ?_); refine PW.rg rfl fun K hK => ?_; simp (disch := omega) only [go_sem, ↓reduceIte, reduceCtorEq, pappend, plen]; refine hK _ _ ?_; clear hK K
  (repeat refine PW.seq ?_)
  refine PW.rgv (P := Try.prog) [1, 2, 4] 24 (.bool false) ?_ ?_ ?_
  · rfl
  · simp (disch := omega) only [go_sem, ↓reduceIte, reduceCtorEq, pappend, plen]; (repeat' (first | ((first | refine VO_cond (fun h => ?_) (fun h => ?_) | refine VOd_cond (fun h => ?_) (fun h => ?_) | refine VOg_cond (fun h => ?_) (fun h => ?_) | refine And.intro (fun h => ?_) (fun h => ?_)) <;> (try simp only [Bool.not_eq_true', Bool.not_eq_false', decide_eq_true_eq, decide_eq_false_iff_not] at h) <;> simp (disch := omega) only [go_sem, ↓reduceIte, reduceCtorEq, pappend, plen, m4, h]) | (refine VCx.call (hfd _) rfl ?_; simp (disch := omega) only [go_sem, ↓reduceIte, reduceCtorEq, pappend, plen, m4]) | (refine VCy.call (hfd _) rfl ?_; simp (disch := omega) only [go_sem, ↓reduceIte, reduceCtorEq, pappend, plen, m4]) | (refine VCz.call (fun _ => hfd _) rfl ?_; simp (disch := omega) only [go_sem, ↓reduceIte, reduceCtorEq, pappend, plen, m4])))
    all_goals (simp_all [slot, Nat.beq] <;> first | rfl | omega | (rw [Bool.eq_iff_iff]; simp; done) | (rw [Bool.eq_iff_iff]; simp; omega))
  (repeat refine PW.seq ?_); refine PW.cond (t := _) rfl (fun h => ?_) (fun h => ?_)
  · cases h
  refine PW.skip ?_
  (repeat refine PW.seq ?_); refine PW.draw mix (by kernel_rfl) fun K hK => ?_; simp (disch := omega) only [go_sem, ↓reduceIte, reduceCtorEq, pappend, plen, d2]; refine hK _ _ ?_; clear hK K
  (repeat refine PW.seq ?_); refine PW.draw mix (by kernel_rfl) fun K hK => ?_; simp (disch := omega) only [go_sem, ↓reduceIte, reduceCtorEq, pappend, plen, x1, x2, x3, d3, d4]
  (repeat' (first | ((first | refine VO_cond (fun h => ?_) (fun h => ?_) | refine VOd_cond (fun h => ?_) (fun h => ?_) | refine VOg_cond (fun h => ?_) (fun h => ?_) | refine And.intro (fun h => ?_) (fun h => ?_)) <;> (try simp only [Bool.not_eq_true', Bool.not_eq_false', decide_eq_true_eq, decide_eq_false_iff_not] at h) <;> simp (disch := omega) only [go_sem, ↓reduceIte, reduceCtorEq, pappend, plen, x1, x2, x3, d3, d4, h]) | (refine VCx.call (c1 _) rfl ?_; simp (disch := omega) only [go_sem, ↓reduceIte, reduceCtorEq, pappend, plen, x1, x2, x3, d3, d4]) | (refine VCx.call (c2 _) rfl ?_; simp (disch := omega) only [go_sem, ↓reduceIte, reduceCtorEq, pappend, plen, x1, x2, x3, d3, d4]) | (refine VCx.call (c3 _) rfl ?_; simp (disch := omega) only [go_sem, ↓reduceIte, reduceCtorEq, pappend, plen, x1, x2, x3, d3, d4]) | (refine VCy.call (c1 _) rfl ?_; simp (disch := omega) only [go_sem, ↓reduceIte, reduceCtorEq, pappend, plen, x1, x2, x3, d3, d4]) | (refine VCy.call (c2 _) rfl ?_; simp (disch := omega) only [go_sem, ↓reduceIte, reduceCtorEq, pappend, plen, x1, x2, x3, d3, d4]) | (refine VCy.call (c3 _) rfl ?_; simp (disch := omega) only [go_sem, ↓reduceIte, reduceCtorEq, pappend, plen, x1, x2, x3, d3, d4]) | (refine VCz.call (fun _ => c1 _) rfl ?_; simp (disch := omega) only [go_sem, ↓reduceIte, reduceCtorEq, pappend, plen, x1, x2, x3, d3, d4]) | (refine VCz.call (fun _ => c2 _) rfl ?_; simp (disch := omega) only [go_sem, ↓reduceIte, reduceCtorEq, pappend, plen, x1, x2, x3, d3, d4]) | (refine VCz.call (fun _ => c3 _) rfl ?_; simp (disch := omega) only [go_sem, ↓reduceIte, reduceCtorEq, pappend, plen, x1, x2, x3, d3, d4])))
  refine hK _ _ ?_; clear hK K
  refine PW.ret ⟨.tup [.agg [.int .i64 ((2 * V : Nat) : Int), .int .i64 ((2 * K : Nat) : Int), .slice (bs (ctl y (P * (2 * V)) (2 * (2 * V)) (2 * V) (2 * K))) (2 * K * (2 * V)) false, .slice (bs (ctl u (P * V) (2 * V) V K)) (K * V) false, .slice (bs (ctl v (P * V) (2 * V) V K)) (K * V) false], .int .i64 0], by simp (disch := omega) only [go_sem, ↓reduceIte, reduceCtorEq, pappend, plen, presults, presult, List.mapM_cons, List.mapM_nil, Option.pure_def, Option.bind_eq_bind, Option.bind_some, Array.toList], ?_⟩
  rw [← hr]
  exact Fin.base (.id (fe_scoped _ _ _ _ _ _ _ _ _ _))

set_option maxHeartbeats 1600000 in
set_option maxRecDepth 10000 in
theorem field_ref (V K P : Nat) (y u v : List UInt8) (H : Heap) (hf : Fok V K y u v) (hP : P ≤ 1) :
    CallOk Try.prog 16 [.agg (fmc (fr4 V K y u v)), .int .i64 (P : Int)] H (.tup [.agg (fmc (fld V K P y u v)), .int .i64 0]) H := by
  have hfd := fun H => formed_ref (fr4 V K y u v) H
  rw [fmd_fr4 hf] at hfd
  obtain ⟨⟨v1, v2⟩, ⟨k1, k2⟩, hy, hu, hv⟩ := hf
  have ly := ctl_len y (P * (2 * V)) (2 * (2 * V)) (2 * V) (2 * K) (rows_fit _ _ _ hP _ hy)
  have lu := ctl_len u (P * V) (2 * V) V K (rows_fit _ _ _ hP _ hu)
  have lv := ctl_len v (P * V) (2 * V) V K (rows_fit _ _ _ hP _ hv)
  have c1 := fun H => lines_ref y (2 * V) P (2 * K) false H (by omega) hP (by omega) hy
  have c2 := fun H => lines_ref u V P K false H (by omega) hP (by omega) hu
  have c3 := fun H => lines_ref v V P K false H (by omega) hP (by omega) hv
  generalize hr : fmc (fld V K P y u v) = r
  simp only [fmc, fld, ly, lu, lv] at hr
  simp only [fmc, fr4] at hfd ⊢
  have m4 : ((4 * K : Nat) : Int).tmod 4 = 0 := by rw [tmod_pos _ _ (by omega)]; omega
  have d2 : ((4 * K : Nat) : Int).tdiv 2 = ((2 * K : Nat) : Int) := by rw [tdiv_pos _ _ (by omega)]; omega
  have d4 : ((2 * V : Nat) : Int).tdiv 2 = (V : Int) := by rw [tdiv_pos _ _ (by omega)]; omega
  refine CallOk.body (F0 := [(0, .agg [.int .i64 ((2 * V : Nat) : Int), .int .i64 ((4 * K : Nat) : Int), .slice (bs y) y.length false, .slice (bs u) u.length false, .slice (bs v) v.length false]), (1, .int .i64 (P : Int))]) Try.func16 rfl Try.ntmps16 Try.results16 rfl (by kernel_rfl) rfl ?_
  (repeat refine PW.seq ?_); refine PW.rg rfl fun K hK => ?_; simp (disch := omega) only [go_sem, ↓reduceIte, reduceCtorEq, pappend, plen]; refine hK _ _ ?_; clear hK K
  (repeat refine PW.seq ?_)
  refine PW.rgv (P := Try.prog) [1, 2, 4] 22 (.bool false) ?_ ?_ ?_
  · rfl
  · simp (disch := omega) only [go_sem, ↓reduceIte, reduceCtorEq, pappend, plen]; (repeat' (first | ((first | refine VO_cond (fun h => ?_) (fun h => ?_) | refine VOd_cond (fun h => ?_) (fun h => ?_) | refine VOg_cond (fun h => ?_) (fun h => ?_) | refine And.intro (fun h => ?_) (fun h => ?_)) <;> (try simp only [Bool.not_eq_true', Bool.not_eq_false', decide_eq_true_eq, decide_eq_false_iff_not] at h) <;> simp (disch := omega) only [go_sem, ↓reduceIte, reduceCtorEq, pappend, plen, m4, h]) | (refine VCx.call (hfd _) rfl ?_; simp (disch := omega) only [go_sem, ↓reduceIte, reduceCtorEq, pappend, plen, m4]) | (refine VCy.call (hfd _) rfl ?_; simp (disch := omega) only [go_sem, ↓reduceIte, reduceCtorEq, pappend, plen, m4]) | (refine VCz.call (fun _ => hfd _) rfl ?_; simp (disch := omega) only [go_sem, ↓reduceIte, reduceCtorEq, pappend, plen, m4])))
    all_goals (simp_all [slot, Nat.beq] <;> first | rfl | omega | (rw [Bool.eq_iff_iff]; simp; done) | (rw [Bool.eq_iff_iff]; simp; omega))
  (repeat refine PW.seq ?_); refine PW.cond (t := _) rfl (fun h => ?_) (fun h => ?_)
  · cases h
  refine PW.skip ?_
  (repeat refine PW.seq ?_); refine PW.draw mix (by kernel_rfl) fun K hK => ?_; simp (disch := omega) only [go_sem, ↓reduceIte, reduceCtorEq, pappend, plen, d2, d4]
  (repeat' (first | ((first | refine VO_cond (fun h => ?_) (fun h => ?_) | refine VOd_cond (fun h => ?_) (fun h => ?_) | refine VOg_cond (fun h => ?_) (fun h => ?_) | refine And.intro (fun h => ?_) (fun h => ?_)) <;> (try simp only [Bool.not_eq_true', Bool.not_eq_false', decide_eq_true_eq, decide_eq_false_iff_not] at h) <;> simp (disch := omega) only [go_sem, ↓reduceIte, reduceCtorEq, pappend, plen, d2, d4, h]) | (refine VCx.call (c1 _) rfl ?_; simp (disch := omega) only [go_sem, ↓reduceIte, reduceCtorEq, pappend, plen, d2, d4]) | (refine VCx.call (c2 _) rfl ?_; simp (disch := omega) only [go_sem, ↓reduceIte, reduceCtorEq, pappend, plen, d2, d4]) | (refine VCx.call (c3 _) rfl ?_; simp (disch := omega) only [go_sem, ↓reduceIte, reduceCtorEq, pappend, plen, d2, d4]) | (refine VCy.call (c1 _) rfl ?_; simp (disch := omega) only [go_sem, ↓reduceIte, reduceCtorEq, pappend, plen, d2, d4]) | (refine VCy.call (c2 _) rfl ?_; simp (disch := omega) only [go_sem, ↓reduceIte, reduceCtorEq, pappend, plen, d2, d4]) | (refine VCy.call (c3 _) rfl ?_; simp (disch := omega) only [go_sem, ↓reduceIte, reduceCtorEq, pappend, plen, d2, d4]) | (refine VCz.call (fun _ => c1 _) rfl ?_; simp (disch := omega) only [go_sem, ↓reduceIte, reduceCtorEq, pappend, plen, d2, d4]) | (refine VCz.call (fun _ => c2 _) rfl ?_; simp (disch := omega) only [go_sem, ↓reduceIte, reduceCtorEq, pappend, plen, d2, d4]) | (refine VCz.call (fun _ => c3 _) rfl ?_; simp (disch := omega) only [go_sem, ↓reduceIte, reduceCtorEq, pappend, plen, d2, d4])))
  refine hK _ _ ?_; clear hK K
  refine PW.ret ⟨.tup [.agg [.int .i64 ((2 * V : Nat) : Int), .int .i64 ((2 * K : Nat) : Int), .slice (bs (ctl y (P * (2 * V)) (2 * (2 * V)) (2 * V) (2 * K))) (2 * K * (2 * V)) false, .slice (bs (ctl u (P * V) (2 * V) V K)) (K * V) false, .slice (bs (ctl v (P * V) (2 * V) V K)) (K * V) false], .int .i64 0], by simp (disch := omega) only [go_sem, ↓reduceIte, reduceCtorEq, pappend, plen, presults, presult, List.mapM_cons, List.mapM_nil, Option.pure_def, Option.bind_eq_bind, Option.bind_some, Array.toList], ?_⟩
  rw [← hr]
  exact Fin.base (.id (fe_scoped _ _ _ _ _ _ _ _ _ _))

theorem clone_ok (p : List UInt8) (f : Bool) (H : Heap) (hp : 1 ≤ p.length ∧ p.length ≤ 100000) : CallOk Try.prog 11 [.slice (bs p) p.length f] H (.slice (bs p) p.length false) H := by
  refine CallOk.body (F0 := [(0, .slice (bs p) p.length f)]) Try.func11 rfl Try.ntmps11 Try.results11 rfl (by kernel_rfl) rfl ?_
  (repeat refine PW.seq ?_); refine PW.rg rfl fun K hK => ?_; simp (disch := omega) only [go_sem, ↓reduceIte, reduceCtorEq, pappend, plen]; refine hK _ _ ?_; clear hK K
  (repeat refine PW.seq ?_); refine PW.rg rfl fun K hK => ?_; simp (disch := omega) only [go_sem, ↓reduceIte, reduceCtorEq, pappend, plen]; refine hK _ _ ?_; clear hK K
  (repeat refine PW.seq ?_); refine PW.cond (t := _) rfl (fun h => ?_) (fun h => ?_)
  · cases h
  refine PW.skip ?_
  (repeat refine PW.seq ?_); refine PW.rg rfl fun K hK => ?_; simp (disch := omega) only [go_sem, ↓reduceIte, reduceCtorEq, pappend, plen, length_bs]; refine hK _ _ ?_; clear hK K
  refine PW.ret ⟨_, rfl, ?_⟩
  exact Fin.base (Fz.mslC (e := 5) (xs := bs p) (Nat.le_refl _) (by simp [length_bs]) (by rw [length_bs]; omega) (FzC.refl (bs_scoped _ _)))

theorem same_ok (p q : List UInt8) (f g : Bool) (H : Heap) : CallOk Try.prog 21 [.slice (bs p) p.length f, .slice (bs q) q.length g] H (.bool (p == q)) H := by
  refine CallOk.body (F0 := [(0, .slice (bs p) p.length f), (1, .slice (bs q) q.length g)]) Try.func21 rfl Try.ntmps21 Try.results21 rfl (by kernel_rfl) rfl ?_
  (repeat refine PW.seq ?_); refine PW.rg rfl fun K hK => ?_; simp (disch := omega) only [go_sem, ↓reduceIte, reduceCtorEq, pappend, plen]; refine hK _ _ ?_; clear hK K
  (repeat refine PW.seq ?_); refine PW.rg rfl fun K hK => ?_; simp (disch := omega) only [go_sem, ↓reduceIte, reduceCtorEq, pappend, plen, length_bs, pbytes_bs]; refine hK _ _ ?_; clear hK K
  exact PW.ret ⟨_, rfl, .inl ⟨rfl, rfl⟩⟩
theorem equal_ref (f : Fm) (H : Heap) : CallOk Try.prog 9 [.agg (fmc f), .agg (fmc f)] H (.bool true) H := by
  obtain ⟨w, ht, y, u, v⟩ := f
  have s1 := fun H => same_ok y y false false H
  have s2 := fun H => same_ok u u false false H
  have s3 := fun H => same_ok v v false false H
  simp only [beq_self_eq_true] at s1 s2 s3
  refine CallOk.body (F0 := [(0, .agg (fmc ⟨w, ht, y, u, v⟩)), (1, .agg (fmc ⟨w, ht, y, u, v⟩))]) Try.func9 rfl Try.ntmps9 Try.results9 rfl (by kernel_rfl) rfl ?_
  (repeat' (first | refine PW.seq ?_ | refine PW.skip ?_ | refine PW.block ?_ | (refine PW.rg rfl fun K hK => ?_; simp (disch := omega) only [go_sem, ↓reduceIte, reduceCtorEq, pappend, plen, fmc]) | (refine PW.draw mix (by kernel_rfl) fun K hK => ?_; simp (disch := omega) only [go_sem, ↓reduceIte, reduceCtorEq, pappend, plen, fmc]) | (refine PW.drawg mix (by kernel_rfl) fun K hK => ?_; simp (disch := omega) only [go_sem, ↓reduceIte, reduceCtorEq, pappend, plen, fmc]) | ((first | refine VO_cond (fun h => ?_) (fun h => ?_) | refine VOd_cond (fun h => ?_) (fun h => ?_) | refine VOg_cond (fun h => ?_) (fun h => ?_) | refine And.intro (fun h => ?_) (fun h => ?_)) <;> (try simp only [Bool.not_eq_true', Bool.not_eq_false', decide_eq_true_eq, decide_eq_false_iff_not] at h) <;> simp (disch := omega) only [go_sem, ↓reduceIte, reduceCtorEq, pappend, plen, fmc, h]) | (refine VCx.call (s1 _) rfl ?_; simp (disch := omega) only [go_sem, ↓reduceIte, reduceCtorEq, pappend, plen, fmc]) | (refine VCx.call (s2 _) rfl ?_; simp (disch := omega) only [go_sem, ↓reduceIte, reduceCtorEq, pappend, plen, fmc]) | (refine VCx.call (s3 _) rfl ?_; simp (disch := omega) only [go_sem, ↓reduceIte, reduceCtorEq, pappend, plen, fmc]) | (refine VCy.call (s1 _) rfl ?_; simp (disch := omega) only [go_sem, ↓reduceIte, reduceCtorEq, pappend, plen, fmc]) | (refine VCy.call (s2 _) rfl ?_; simp (disch := omega) only [go_sem, ↓reduceIte, reduceCtorEq, pappend, plen, fmc]) | (refine VCy.call (s3 _) rfl ?_; simp (disch := omega) only [go_sem, ↓reduceIte, reduceCtorEq, pappend, plen, fmc]) | (refine VCz.call (fun _ => s1 _) rfl ?_; simp (disch := omega) only [go_sem, ↓reduceIte, reduceCtorEq, pappend, plen, fmc]) | (refine VCz.call (fun _ => s2 _) rfl ?_; simp (disch := omega) only [go_sem, ↓reduceIte, reduceCtorEq, pappend, plen, fmc]) | (refine VCz.call (fun _ => s3 _) rfl ?_; simp (disch := omega) only [go_sem, ↓reduceIte, reduceCtorEq, pappend, plen, fmc]) | (refine hK _ _ ?_; clear hK K) | (refine PW.cond (t := _) rfl (fun h => ?_) (fun h => ?_) <;> (try (cases h; done)) <;> (try simp only [Bool.not_eq_true', Bool.not_eq_false', decide_eq_true_eq, decide_eq_false_iff_not] at h))))
  all_goals ((refine PW.ret ⟨_, rfl, ?_⟩; first | refine .inl ⟨?_, rfl⟩ | refine Fin.base (.id' ?_ (.bool _)) | refine Fin.base (.id' ?_ (.int _ _))); (simp_all [slot, Nat.beq] <;> first | rfl | omega | (rw [Bool.eq_iff_iff]; simp; done) | (rw [Bool.eq_iff_iff]; simp; omega)))

end Go.Proofs.Ytooejnahjjmamaa.Sc
