/-
  Parts of the proof, put together in one text. No condition.
-/
import Derived.Test.YtahomnplappbpaaGreatDoorW21
import Derived.Test.YtahomnplappbpaaGreatDoorW16
import Derived.Test.YtahomnplappbpaaGreatDoorRows
import Derived.Test.YtahomnplappbpaaGreatDoorW09
namespace Go.Proofs.YtahomnplappbpaaGreatDoor.Sc
set_option linter.all false
set_option linter.unusedVariables false
set_option linter.unusedSimpArgs false
open Pm Ty Go.RowKit

/-- A frame whose rows can be parted. -/
def fr4 (V K : Nat) (y u v : List UInt8) : Fm := ⟨((2 * V : Nat) : Int), ((4 * K : Nat) : Int), y, u, v⟩
structure Fok (V K : Nat) (y u v : List UInt8) : Prop where
  rv : 1 ≤ V ∧ V ≤ 32
  rk : 1 ≤ K ∧ K ≤ 16
  ly : y.length = 2 * K * (2 * (2 * V))
  lu : u.length = K * (2 * V)
  lv : v.length = K * (2 * V)
/-- Its field. -/
def fld (V K P : Nat) (y u v : List UInt8) : Fm := ⟨((2 * V : Nat) : Int), ((2 * K : Nat) : Int), ctl y (P * (2 * V)) (2 * (2 * V)) (2 * V) (2 * K), ctl u (P * V) (2 * V) V K, ctl v (P * V) (2 * V) V K⟩
theorem fmd_fr4 {V K : Nat} {y u v : List UInt8} (h : Fok V K y u v) : fmd (fr4 V K y u v) = true := by
  obtain ⟨⟨v1, v2⟩, ⟨k1, k2⟩, hy, hu, hv⟩ := h
  have e1 : ((2 * V : Nat) : Int) / 2 = (V : Int) := by omega
  have e2 : ((4 * K : Nat) : Int) / 2 = ((2 * K : Nat) : Int) := by omega
  have e3 : 2 * K * (2 * (2 * V)) = 2 * V * (4 * K) := by rw [show 2 * (2 * V) = 4 * V by omega, Nat.mul_mul_mul_comm, Nat.mul_mul_mul_comm 2 V 4 K, Nat.mul_comm K V]
  have e4 : K * (2 * V) = V * (2 * K) := by rw [Nat.mul_comm K, Nat.mul_comm 2 V, Nat.mul_assoc]
  have a1 : fsz ((2 * V : Nat) : Int) ((4 * K : Nat) : Int) = true := by
    simp only [fsz, Bool.and_eq_true, decide_eq_true_eq]
    omega
  have a2 : ((2 * V * (4 * K) : Nat) : Int) = ((2 * V : Nat) : Int) * ((4 * K : Nat) : Int) := Int.natCast_mul _ _
  have a3 : ((V * (2 * K) : Nat) : Int) = (V : Int) * ((2 * K : Nat) : Int) := Int.natCast_mul _ _
  simp only [fmd, fr4, a1, e1, e2, hy, hu, hv, e3, e4, a2, a3, decide_true, Bool.and_self]
theorem rows_fit (n w P : Nat) (hP : P ≤ 1) (p : List UInt8) (hp : p.length = n * (2 * w)) : ∀ k, k < n → P * w + k * (2 * w) + w ≤ p.length := fun k hk => by
  have h0 : P * w ≤ w := by
    have : P = 0 ∨ P = 1 := by omega
    rcases this with rfl | rfl <;> simp
  have h1 : (k + 1) * (2 * w) ≤ n * (2 * w) := Nat.mul_le_mul_right _ (by omega)
  rw [Nat.add_mul] at h1
  omega

theorem fe_scoped (n : Nat) (a b : Int) (y u v : List UInt8) (i j k : Nat) (e : Int) : Scoped n (.tup [.agg [.int .i64 a, .int .i64 b, .slice (bs y) i false, .slice (bs u) j false, .slice (bs v) k false], .int .i64 e]) := .tup fun p x hx => by
  have hm := List.mem_of_getElem? hx
  simp only [List.mem_cons, List.not_mem_nil, or_false] at hm
  rcases hm with rfl | rfl
  · refine ag_scoped fun x hx => ?_
    simp only [List.mem_cons, List.not_mem_nil, or_false] at hx
    rcases hx with rfl | rfl | rfl | rfl | rfl
    · exact .int _ _
    · exact .int _ _
    · exact sl_scoped (bs_scoped _ _)
    · exact sl_scoped (bs_scoped _ _)
    · exact sl_scoped (bs_scoped _ _)
  · exact .int _ _

set_option maxHeartbeats 1600000 in
set_option maxRecDepth 10000 in
theorem field_ok (V K P : Nat) (y u v : List UInt8) (H : Heap) (hf : Fok V K y u v) (hP : P ≤ 1) :
    CallOk Tryz.prog 119 [.agg (fmc (fr4 V K y u v)), .int .i64 (P : Int)] H (.tup [.agg (fmc (fld V K P y u v)), .int .i64 0]) H := by
  have hfd := fun H => formed_ok (fr4 V K y u v) H
  rw [fmd_fr4 hf] at hfd
  obtain ⟨⟨v1, v2⟩, ⟨k1, k2⟩, hy, hu, hv⟩ := hf
  have ly := ctl_len y (P * (2 * V)) (2 * (2 * V)) (2 * V) (2 * K) (rows_fit _ _ _ hP _ hy)
  have lu := ctl_len u (P * V) (2 * V) V K (rows_fit _ _ _ hP _ hu)
  have lv := ctl_len v (P * V) (2 * V) V K (rows_fit _ _ _ hP _ hv)
  have hPV : P * V ≤ 32 ∧ P * (2 * V) ≤ 64 := by
    have : P = 0 ∨ P = 1 := by omega
    rcases this with rfl | rfl <;> simp <;> omega
  have by1 : y.length ≤ 8192 := by
    have : 2 * K * (2 * (2 * V)) ≤ 32 * 128 := Nat.mul_le_mul (by omega) (by omega)
    omega
  have bu1 : u.length ≤ 8192 := by
    have : K * (2 * V) ≤ 16 * 64 := Nat.mul_le_mul (by omega) (by omega)
    omega
  have bv1 : v.length ≤ 8192 := by
    have : K * (2 * V) ≤ 16 * 64 := Nat.mul_le_mul (by omega) (by omega)
    omega
  have c1 := fun H => cut_ok y (P * (2 * V)) (2 * (2 * V)) (2 * V) (2 * K) false H (by omega) (by omega) by1 (rows_fit _ _ _ hP _ hy) (by omega)
  have c2 := fun H => cut_ok u (P * V) (2 * V) V K false H (by omega) (by omega) bu1 (rows_fit _ _ _ hP _ hu) (by omega)
  have c3 := fun H => cut_ok v (P * V) (2 * V) V K false H (by omega) (by omega) bv1 (rows_fit _ _ _ hP _ hv) (by omega)
  generalize hr : fmc (fld V K P y u v) = r
  simp only [fmc, fld, ly, lu, lv] at hr
  simp only [fmc, fr4] at hfd ⊢
  have m4 : ((4 * K : Nat) : Int).tmod 4 = 0 := by rw [tmod_pos _ _ (by omega)]; omega
  have d2 : ((4 * K : Nat) : Int).tdiv 2 = ((2 * K : Nat) : Int) := by rw [tdiv_pos _ _ (by omega)]; omega
  have d3 : ((2 * K : Nat) : Int).tdiv 2 = (K : Int) := by rw [tdiv_pos _ _ (by omega)]; omega
  have d4 : ((2 * V : Nat) : Int).tdiv 2 = (V : Int) := by rw [tdiv_pos _ _ (by omega)]; omega
  have x1 : (P : Int) * ((2 * V : Nat) : Int) = ((P * (2 * V) : Nat) : Int) := by simp
  have x2 : (2 : Int) * ((2 * V : Nat) : Int) = ((2 * (2 * V) : Nat) : Int) := by simp
  have x3 : ((P * (2 * V) : Nat) : Int).tdiv 2 = ((P * V : Nat) : Int) := by
    rw [tdiv_pos _ _ (by omega)]
    have : P = 0 ∨ P = 1 := by omega
    rcases this with rfl | rfl <;> simp <;> omega
  refine CallOk.body (F0 := [(0, .agg [.int .i64 ((2 * V : Nat) : Int), .int .i64 ((4 * K : Nat) : Int), .slice (bs y) y.length false, .slice (bs u) u.length false, .slice (bs v) v.length false]), (1, .int .i64 (P : Int))]) Tryz.func119 rfl Tryz.ntmps119 Tryz.results119 rfl (by kernel_rfl) rfl ?_
  (repeat refine PW.seq ?_); refine PW.rg rfl fun K hK => ?_; simp (disch := omega) only [go_sem, ↓reduceIte, reduceCtorEq, pappend, plen]; refine hK _ _ ?_; clear hK K
  (repeat refine PW.seq ?_)
  refine PW.rgv (P := Tryz.prog) [1, 2, 4] 24 (.bool false) ?_ ?_ ?_
  · rfl
  · simp (disch := omega) only [go_sem, ↓reduceIte, reduceCtorEq, pappend, plen]; (repeat' (first | ((first | refine VO_cond ?_ ?_ | refine VOd_cond ?_ ?_ | refine VOg_cond ?_ ?_ | refine VOh_cond ?_ ?_ | refine VOi_cond ?_ ?_ | refine And.intro ?_ ?_) <;> intro h <;> (try simp only [Bool.not_eq_true', Bool.not_eq_false', decide_eq_true_eq, decide_eq_false_iff_not] at h) <;> simp (disch := omega) only [go_sem, ↓reduceIte, reduceCtorEq, pappend, plen, m4, h]) | ((first | refine VCx.call (hfd _) rfl ?_ | refine VCy.call (hfd _) rfl ?_ | refine VCz.call (fun _ => hfd _) rfl ?_ | refine VCk.call (fun _ _ => hfd _) rfl ?_ | refine VCj.now (hfd _) rfl ?_); simp (disch := omega) only [go_sem, ↓reduceIte, reduceCtorEq, pappend, plen, m4])))
    all_goals (simp_all [slot, Nat.beq] <;> first | rfl | omega | (rw [Bool.eq_iff_iff]; simp; done) | (rw [Bool.eq_iff_iff]; simp; omega))
  (repeat refine PW.seq ?_); refine PW.cond (t := _) rfl (fun h => ?_) (fun h => ?_)
  · cases h
  refine PW.skip ?_
  (repeat refine PW.seq ?_); refine PW.draw mix (by kernel_rfl) fun K hK => ?_; simp (disch := omega) only [go_sem, ↓reduceIte, reduceCtorEq, pappend, plen, d2]; refine hK _ _ ?_; clear hK K
  (repeat refine PW.seq ?_); refine PW.draw mix (by kernel_rfl) fun K hK => ?_; simp (disch := omega) only [go_sem, ↓reduceIte, reduceCtorEq, pappend, plen, x1, x2, x3, d3, d4]
  (repeat' (first | ((first | refine VO_cond ?_ ?_ | refine VOd_cond ?_ ?_ | refine VOg_cond ?_ ?_ | refine VOh_cond ?_ ?_ | refine VOi_cond ?_ ?_ | refine And.intro ?_ ?_) <;> intro h <;> (try simp only [Bool.not_eq_true', Bool.not_eq_false', decide_eq_true_eq, decide_eq_false_iff_not] at h) <;> simp (disch := omega) only [go_sem, ↓reduceIte, reduceCtorEq, pappend, plen, x1, x2, x3, d3, d4, h]) | ((first | refine VCx.call (c1 _) rfl ?_ | refine VCx.call (c2 _) rfl ?_ | refine VCx.call (c3 _) rfl ?_ | refine VCy.call (c1 _) rfl ?_ | refine VCy.call (c2 _) rfl ?_ | refine VCy.call (c3 _) rfl ?_ | refine VCz.call (fun _ => c1 _) rfl ?_ | refine VCz.call (fun _ => c2 _) rfl ?_ | refine VCz.call (fun _ => c3 _) rfl ?_ | refine VCk.call (fun _ _ => c1 _) rfl ?_ | refine VCk.call (fun _ _ => c2 _) rfl ?_ | refine VCk.call (fun _ _ => c3 _) rfl ?_ | refine VCj.now (c1 _) rfl ?_ | refine VCj.now (c2 _) rfl ?_ | refine VCj.now (c3 _) rfl ?_); simp (disch := omega) only [go_sem, ↓reduceIte, reduceCtorEq, pappend, plen, x1, x2, x3, d3, d4])))
  refine hK _ _ ?_; clear hK K
  refine PW.ret ⟨.tup [.agg [.int .i64 ((2 * V : Nat) : Int), .int .i64 ((2 * K : Nat) : Int), .slice (bs (ctl y (P * (2 * V)) (2 * (2 * V)) (2 * V) (2 * K))) (2 * K * (2 * V)) false, .slice (bs (ctl u (P * V) (2 * V) V K)) (K * V) false, .slice (bs (ctl v (P * V) (2 * V) V K)) (K * V) false], .int .i64 0], by simp (disch := omega) only [go_sem, ↓reduceIte, reduceCtorEq, pappend, plen, presults, presult, List.mapM_cons, List.mapM_nil, Option.pure_def, Option.bind_eq_bind, Option.bind_some, Array.toList], ?_⟩
  rw [← hr]
  exact Fin.base (.id (fe_scoped _ _ _ _ _ _ _ _ _ _))

set_option maxHeartbeats 1600000 in
set_option maxRecDepth 10000 in
theorem field_ref (V K P : Nat) (y u v : List UInt8) (H : Heap) (hf : Fok V K y u v) (hP : P ≤ 1) :
    CallOk Tryz.prog 25 [.agg (fmc (fr4 V K y u v)), .int .i64 (P : Int)] H (.tup [.agg (fmc (fld V K P y u v)), .int .i64 0]) H := by
  have hfd := fun H => formed_ref (fr4 V K y u v) H
  rw [fmd_fr4 hf] at hfd
  obtain ⟨⟨v1, v2⟩, ⟨k1, k2⟩, hy, hu, hv⟩ := hf
  have ly := ctl_len y (P * (2 * V)) (2 * (2 * V)) (2 * V) (2 * K) (rows_fit _ _ _ hP _ hy)
  have lu := ctl_len u (P * V) (2 * V) V K (rows_fit _ _ _ hP _ hu)
  have lv := ctl_len v (P * V) (2 * V) V K (rows_fit _ _ _ hP _ hv)
  have c1 := fun H => lines_ref y (2 * V) P (2 * K) false H (by omega) hP (by omega) hy
  have c2 := fun H => lines_ref u V P K false H (by omega) hP (by omega) hu
  have c3 := fun H => lines_ref v V P K false H (by omega) hP (by omega) hv
  generalize hr : fmc (fld V K P y u v) = r
  simp only [fmc, fld, ly, lu, lv] at hr
  simp only [fmc, fr4] at hfd ⊢
  have m4 : ((4 * K : Nat) : Int).tmod 4 = 0 := by rw [tmod_pos _ _ (by omega)]; omega
  have d2 : ((4 * K : Nat) : Int).tdiv 2 = ((2 * K : Nat) : Int) := by rw [tdiv_pos _ _ (by omega)]; omega
  have d4 : ((2 * V : Nat) : Int).tdiv 2 = (V : Int) := by rw [tdiv_pos _ _ (by omega)]; omega
  refine CallOk.body (F0 := [(0, .agg [.int .i64 ((2 * V : Nat) : Int), .int .i64 ((4 * K : Nat) : Int), .slice (bs y) y.length false, .slice (bs u) u.length false, .slice (bs v) v.length false]), (1, .int .i64 (P : Int))]) Tryz.func25 rfl Tryz.ntmps25 Tryz.results25 rfl (by kernel_rfl) rfl ?_
  (repeat refine PW.seq ?_); refine PW.rg rfl fun K hK => ?_; simp (disch := omega) only [go_sem, ↓reduceIte, reduceCtorEq, pappend, plen]; refine hK _ _ ?_; clear hK K
  (repeat refine PW.seq ?_)
  refine PW.rgv (P := Tryz.prog) [1, 2, 4] 22 (.bool false) ?_ ?_ ?_
  · rfl
  · simp (disch := omega) only [go_sem, ↓reduceIte, reduceCtorEq, pappend, plen]; (repeat' (first | ((first | refine VO_cond ?_ ?_ | refine VOd_cond ?_ ?_ | refine VOg_cond ?_ ?_ | refine VOh_cond ?_ ?_ | refine VOi_cond ?_ ?_ | refine And.intro ?_ ?_) <;> intro h <;> (try simp only [Bool.not_eq_true', Bool.not_eq_false', decide_eq_true_eq, decide_eq_false_iff_not] at h) <;> simp (disch := omega) only [go_sem, ↓reduceIte, reduceCtorEq, pappend, plen, m4, h]) | ((first | refine VCx.call (hfd _) rfl ?_ | refine VCy.call (hfd _) rfl ?_ | refine VCz.call (fun _ => hfd _) rfl ?_ | refine VCk.call (fun _ _ => hfd _) rfl ?_ | refine VCj.now (hfd _) rfl ?_); simp (disch := omega) only [go_sem, ↓reduceIte, reduceCtorEq, pappend, plen, m4])))
    all_goals (simp_all [slot, Nat.beq] <;> first | rfl | omega | (rw [Bool.eq_iff_iff]; simp; done) | (rw [Bool.eq_iff_iff]; simp; omega))
  (repeat refine PW.seq ?_); refine PW.cond (t := _) rfl (fun h => ?_) (fun h => ?_)
  · cases h
  refine PW.skip ?_
  (repeat refine PW.seq ?_); refine PW.draw mix (by kernel_rfl) fun K hK => ?_; simp (disch := omega) only [go_sem, ↓reduceIte, reduceCtorEq, pappend, plen, d2, d4]
  (repeat' (first | ((first | refine VO_cond ?_ ?_ | refine VOd_cond ?_ ?_ | refine VOg_cond ?_ ?_ | refine VOh_cond ?_ ?_ | refine VOi_cond ?_ ?_ | refine And.intro ?_ ?_) <;> intro h <;> (try simp only [Bool.not_eq_true', Bool.not_eq_false', decide_eq_true_eq, decide_eq_false_iff_not] at h) <;> simp (disch := omega) only [go_sem, ↓reduceIte, reduceCtorEq, pappend, plen, d2, d4, h]) | ((first | refine VCx.call (c1 _) rfl ?_ | refine VCx.call (c2 _) rfl ?_ | refine VCx.call (c3 _) rfl ?_ | refine VCy.call (c1 _) rfl ?_ | refine VCy.call (c2 _) rfl ?_ | refine VCy.call (c3 _) rfl ?_ | refine VCz.call (fun _ => c1 _) rfl ?_ | refine VCz.call (fun _ => c2 _) rfl ?_ | refine VCz.call (fun _ => c3 _) rfl ?_ | refine VCk.call (fun _ _ => c1 _) rfl ?_ | refine VCk.call (fun _ _ => c2 _) rfl ?_ | refine VCk.call (fun _ _ => c3 _) rfl ?_ | refine VCj.now (c1 _) rfl ?_ | refine VCj.now (c2 _) rfl ?_ | refine VCj.now (c3 _) rfl ?_); simp (disch := omega) only [go_sem, ↓reduceIte, reduceCtorEq, pappend, plen, d2, d4])))
  refine hK _ _ ?_; clear hK K
  refine PW.ret ⟨.tup [.agg [.int .i64 ((2 * V : Nat) : Int), .int .i64 ((2 * K : Nat) : Int), .slice (bs (ctl y (P * (2 * V)) (2 * (2 * V)) (2 * V) (2 * K))) (2 * K * (2 * V)) false, .slice (bs (ctl u (P * V) (2 * V) V K)) (K * V) false, .slice (bs (ctl v (P * V) (2 * V) V K)) (K * V) false], .int .i64 0], by simp (disch := omega) only [go_sem, ↓reduceIte, reduceCtorEq, pappend, plen, presults, presult, List.mapM_cons, List.mapM_nil, Option.pure_def, Option.bind_eq_bind, Option.bind_some, Array.toList], ?_⟩
  rw [← hr]
  exact Fin.base (.id (fe_scoped _ _ _ _ _ _ _ _ _ _))

theorem same_ok (p q : List UInt8) (f g : Bool) (H : Heap) : CallOk Tryz.prog 31 [.slice (bs p) p.length f, .slice (bs q) q.length g] H (.bool (p == q)) H := by
  refine CallOk.body (F0 := [(0, .slice (bs p) p.length f), (1, .slice (bs q) q.length g)]) Tryz.func31 rfl Tryz.ntmps31 Tryz.results31 rfl (by kernel_rfl) rfl ?_
  (repeat refine PW.seq ?_); refine PW.rg rfl fun K hK => ?_; simp (disch := omega) only [go_sem, ↓reduceIte, reduceCtorEq, pappend, plen]; refine hK _ _ ?_; clear hK K
  (repeat refine PW.seq ?_); refine PW.rg rfl fun K hK => ?_; simp (disch := omega) only [go_sem, ↓reduceIte, reduceCtorEq, pappend, plen, length_bs, pbytes_bs]; refine hK _ _ ?_; clear hK K
  exact PW.ret ⟨_, rfl, .inl ⟨rfl, rfl⟩⟩
theorem equal_ref (f : Fm) (H : Heap) : CallOk Tryz.prog 17 [.agg (fmc f), .agg (fmc f)] H (.bool true) H := by
  obtain ⟨w, ht, y, u, v⟩ := f
  have s1 := fun H => same_ok y y false false H
  have s2 := fun H => same_ok u u false false H
  have s3 := fun H => same_ok v v false false H
  simp only [beq_self_eq_true] at s1 s2 s3
  refine CallOk.body (F0 := [(0, .agg (fmc ⟨w, ht, y, u, v⟩)), (1, .agg (fmc ⟨w, ht, y, u, v⟩))]) Tryz.func17 rfl Tryz.ntmps17 Tryz.results17 rfl (by kernel_rfl) rfl ?_
  (repeat' (first | refine PW.seq ?_ | refine PW.skip ?_ | refine PW.block ?_ | (refine PW.rg rfl fun K hK => ?_; simp (disch := omega) only [go_sem, ↓reduceIte, reduceCtorEq, pappend, plen, fmc]) | (refine PW.draw mix (by kernel_rfl) fun K hK => ?_; simp (disch := omega) only [go_sem, ↓reduceIte, reduceCtorEq, pappend, plen, fmc]) | (refine PW.drawg mix (by kernel_rfl) fun K hK => ?_; simp (disch := omega) only [go_sem, ↓reduceIte, reduceCtorEq, pappend, plen, fmc]) | (refine PW.drawt [] [] mix (by kernel_rfl) fun K hK => ?_; simp (disch := omega) only [go_sem, ↓reduceIte, reduceCtorEq, pappend, plen, fmc]) | ((first | refine VO_cond ?_ ?_ | refine VOd_cond ?_ ?_ | refine VOg_cond ?_ ?_ | refine VOh_cond ?_ ?_ | refine VOi_cond ?_ ?_ | refine And.intro ?_ ?_) <;> intro h <;> (try simp only [Bool.not_eq_true', Bool.not_eq_false', decide_eq_true_eq, decide_eq_false_iff_not] at h) <;> simp (disch := omega) only [go_sem, ↓reduceIte, reduceCtorEq, pappend, plen, fmc, h]) | ((first | refine VCx.call (s1 _) rfl ?_ | refine VCx.call (s2 _) rfl ?_ | refine VCx.call (s3 _) rfl ?_ | refine VCy.call (s1 _) rfl ?_ | refine VCy.call (s2 _) rfl ?_ | refine VCy.call (s3 _) rfl ?_ | refine VCz.call (fun _ => s1 _) rfl ?_ | refine VCz.call (fun _ => s2 _) rfl ?_ | refine VCz.call (fun _ => s3 _) rfl ?_ | refine VCk.call (fun _ _ => s1 _) rfl ?_ | refine VCk.call (fun _ _ => s2 _) rfl ?_ | refine VCk.call (fun _ _ => s3 _) rfl ?_ | refine VCj.now (s1 _) rfl ?_ | refine VCj.now (s2 _) rfl ?_ | refine VCj.now (s3 _) rfl ?_); simp (disch := omega) only [go_sem, ↓reduceIte, reduceCtorEq, pappend, plen, fmc]) | (refine hK _ _ ?_; clear hK K) | (refine PW.cond (t := _) rfl (fun h => ?_) (fun h => ?_) <;> (try (cases h; done)) <;> (try simp only [Bool.not_eq_true', Bool.not_eq_false', decide_eq_true_eq, decide_eq_false_iff_not] at h))))
  all_goals ((refine PW.ret ⟨_, rfl, ?_⟩; first | refine .inl ⟨?_, rfl⟩ | refine Fin.base (.id' ?_ (.bool _)) | refine Fin.base (.id' ?_ (.int _ _))); (simp_all [slot, Nat.beq] <;> first | rfl | omega | (rw [Bool.eq_iff_iff]; simp; done) | (rw [Bool.eq_iff_iff]; simp; omega)))

end Go.Proofs.YtahomnplappbpaaGreatDoor.Sc

namespace Go.Proofs.YtahomnplappbpaaGreatDoor.Sc
set_option linter.all false
set_option linter.unusedVariables false
set_option linter.unusedSimpArgs false
open Pm Ty Go.RowKit

def pcx (c : Cx) : Int := if c.s = 2 then 1 else 0

theorem pcx_ok (c : Cx) (H : Heap) : CallOk Tryz.prog 162 [.agg (cxc c)] H (.int .i64 (pcx c)) H := by
  obtain ⟨t, s, i, n⟩ := c
  refine CallOk.body (F0 := [(0, .agg [.int .i64 t, .int .i64 s, .bool i, .bool n])]) Tryz.func162 rfl Tryz.ntmps162 Tryz.results162 rfl (by kernel_rfl) rfl ?_
  (repeat' (first | refine PW.seq ?_ | refine PW.skip ?_ | refine PW.block ?_ | (refine PW.rg rfl fun K hK => ?_; simp (disch := omega) only [go_sem, ↓reduceIte, reduceCtorEq, pappend, plen]) | (refine PW.draw mix (by kernel_rfl) fun K hK => ?_; simp (disch := omega) only [go_sem, ↓reduceIte, reduceCtorEq, pappend, plen]) | (refine PW.drawg mix (by kernel_rfl) fun K hK => ?_; simp (disch := omega) only [go_sem, ↓reduceIte, reduceCtorEq, pappend, plen]) | (refine PW.drawt [] [] mix (by kernel_rfl) fun K hK => ?_; simp (disch := omega) only [go_sem, ↓reduceIte, reduceCtorEq, pappend, plen]) | ((first | refine VO_cond ?_ ?_ | refine VOd_cond ?_ ?_ | refine VOg_cond ?_ ?_ | refine VOh_cond ?_ ?_ | refine VOi_cond ?_ ?_ | refine And.intro ?_ ?_) <;> intro h <;> (try simp only [Bool.not_eq_true', Bool.not_eq_false', decide_eq_true_eq, decide_eq_false_iff_not] at h) <;> simp (disch := omega) only [go_sem, ↓reduceIte, reduceCtorEq, pappend, plen, h]) | (refine hK _ _ ?_; clear hK K) | (refine PW.cond (t := _) rfl (fun h => ?_) (fun h => ?_) <;> (try (cases h; done)) <;> (try simp only [Bool.not_eq_true', Bool.not_eq_false', decide_eq_true_eq, decide_eq_false_iff_not] at h))))
  all_goals ((refine PW.ret ⟨_, rfl, ?_⟩; first | refine .inl ⟨?_, rfl⟩ | refine Fin.base (.id' ?_ (.bool _)) | refine Fin.base (.id' ?_ (.int _ _))); (simp_all [pcx, slot, Nat.beq] <;> first | rfl | omega | (rw [Bool.eq_iff_iff]; simp; done) | (rw [Bool.eq_iff_iff]; simp; omega)))
theorem pcx_ref (c : Cx) (H : Heap) : CallOk Tryz.prog 87 [.agg (cxc c)] H (.int .i64 (pcx c)) H := by
  obtain ⟨t, s, i, n⟩ := c
  refine CallOk.body (F0 := [(0, .agg [.int .i64 t, .int .i64 s, .bool i, .bool n])]) Tryz.func87 rfl Tryz.ntmps87 Tryz.results87 rfl (by kernel_rfl) rfl ?_
  (repeat' (first | refine PW.seq ?_ | refine PW.skip ?_ | refine PW.block ?_ | (refine PW.rg rfl fun K hK => ?_; simp (disch := omega) only [go_sem, ↓reduceIte, reduceCtorEq, pappend, plen]) | (refine PW.draw mix (by kernel_rfl) fun K hK => ?_; simp (disch := omega) only [go_sem, ↓reduceIte, reduceCtorEq, pappend, plen]) | (refine PW.drawg mix (by kernel_rfl) fun K hK => ?_; simp (disch := omega) only [go_sem, ↓reduceIte, reduceCtorEq, pappend, plen]) | (refine PW.drawt [] [] mix (by kernel_rfl) fun K hK => ?_; simp (disch := omega) only [go_sem, ↓reduceIte, reduceCtorEq, pappend, plen]) | ((first | refine VO_cond ?_ ?_ | refine VOd_cond ?_ ?_ | refine VOg_cond ?_ ?_ | refine VOh_cond ?_ ?_ | refine VOi_cond ?_ ?_ | refine And.intro ?_ ?_) <;> intro h <;> (try simp only [Bool.not_eq_true', Bool.not_eq_false', decide_eq_true_eq, decide_eq_false_iff_not] at h) <;> simp (disch := omega) only [go_sem, ↓reduceIte, reduceCtorEq, pappend, plen, h]) | (refine hK _ _ ?_; clear hK K) | (refine PW.cond (t := _) rfl (fun h => ?_) (fun h => ?_) <;> (try (cases h; done)) <;> (try simp only [Bool.not_eq_true', Bool.not_eq_false', decide_eq_true_eq, decide_eq_false_iff_not] at h))))
  all_goals ((refine PW.ret ⟨_, rfl, ?_⟩; first | refine .inl ⟨?_, rfl⟩ | refine Fin.base (.id' ?_ (.bool _)) | refine Fin.base (.id' ?_ (.int _ _))); (simp_all [pcx, slot, Nat.beq] <;> first | rfl | omega | (rw [Bool.eq_iff_iff]; simp; done) | (rw [Bool.eq_iff_iff]; simp; omega)))
theorem samec_ok (c : Cx) (H : Heap) : CallOk Tryz.prog 33 [.agg (cxc c)] H (.agg (cxc c)) H := by
  obtain ⟨t, s, i, n⟩ := c
  refine CallOk.body (F0 := [(0, .agg [.int .i64 t, .int .i64 s, .bool i, .bool n])]) Tryz.func33 rfl Tryz.ntmps33 Tryz.results33 rfl (by kernel_rfl) rfl ?_
  (repeat refine PW.seq ?_); refine PW.rg rfl fun K hK => ?_; simp (disch := omega) only [go_sem, ↓reduceIte, reduceCtorEq, pappend, plen]; refine hK _ _ ?_; clear hK K
  (repeat refine PW.seq ?_); refine PW.rg rfl fun K hK => ?_; simp (disch := omega) only [go_sem, ↓reduceIte, reduceCtorEq, pappend, plen]; refine hK _ _ ?_; clear hK K
  refine PW.ret ⟨.agg [.int .i64 t, .int .i64 s, .bool i, .bool n], by simp (disch := omega) only [go_sem, ↓reduceIte, reduceCtorEq, pappend, plen, presults, presult, List.mapM_cons, List.mapM_nil, Option.pure_def, Option.bind_eq_bind, Option.bind_some, Array.toList], ?_⟩
  refine Fin.base (.id (ag_scoped fun x hx => ?_))
  simp only [List.mem_cons, List.not_mem_nil, or_false] at hx
  rcases hx with rfl | rfl | rfl | rfl
  · exact .int _ _
  · exact .int _ _
  · exact .bool _
  · exact .bool _

end Go.Proofs.YtahomnplappbpaaGreatDoor.Sc

namespace Go.Proofs.YtahomnplappbpaaGreatDoor.Ln
set_option linter.all false
set_option linter.unusedVariables false
set_option linter.unusedSimpArgs false
open Go.ChangeShapes Go.WideShapes Go.ChangeAt Go.RowKit Pm Sc

theorem own : ownKnob Tryz.prog.godebug = none := by kernel_rfl
theorem laidOut : laidOutB Tryz.prog = true := by kernel_rfl

theorem bytes_of {zs : List Int} (hw : ∀ z ∈ zs, (Lit.int .u8 z).wf = true) : ∃ p : List UInt8, zs.map (PV.int .u8) = bs p ∧ p.length = zs.length := by
  refine ⟨zs.map fun z => UInt8.ofNat z.toNat, ?_, by simp⟩
  simp only [bs, List.map_map]
  refine List.map_congr_left fun z hz => ?_
  have h1 := hw z hz
  simp [Lit.wf, IntKind.min, IntKind.max, IntKind.signed, IntKind.bits] at h1
  simp only [Function.comp, UInt8.toNat_ofNat']
  congr 1
  omega
theorem shp_bytes {ps : List PV} (h : Shp Tryz.prog 51 ps) : ∃ p : List UInt8, ps = [.slice (bs p) p.length false] := by
  obtain ⟨zs, rfl, _, hw⟩ := h.of_ints Tryz.underlying51 Tryz.underlying5
  obtain ⟨p, e, hl⟩ := bytes_of hw
  exact ⟨p, by rw [e, hl]⟩
theorem shp_int {ps : List PV} (h : Shp Tryz.prog 3 ps) : ∃ n : Int, ps = [.int .i64 n] ∧ (-9223372036854775808 ≤ n ∧ n ≤ 9223372036854775807) := by
  obtain ⟨n, rfl, hw⟩ := h.of_int Tryz.underlying3
  simp [Lit.wf, IntKind.min, IntKind.max, IntKind.signed, IntKind.bits] at hw
  exact ⟨n, rfl, hw⟩
theorem shp_bool {ps : List PV} (h : Shp Tryz.prog 4 ps) : ∃ b, ps = [.bool b] := h.of_bool Tryz.underlying4
theorem shp_cx {ps : List PV} (h : Shp Tryz.prog 33 ps) : ∃ c : Cx, ps = cxc c := by
  obtain ⟨pss, rfl, hf⟩ := h.fields Tryz.underlying33
  match pss, hf with
  | [a, b, c, d], ⟨ha, hb, hc, hd, _⟩ =>
    obtain ⟨a, rfl, _⟩ := shp_int ha
    obtain ⟨b, rfl, _⟩ := shp_int hb
    obtain ⟨c, rfl⟩ := shp_bool hc
    obtain ⟨d, rfl⟩ := shp_bool hd
    exact ⟨⟨a, b, c, d⟩, rfl⟩
theorem shp_frame {ps : List PV} (h : Shp Tryz.prog 53 ps) : ∃ f : Fm, ps = fmc f := by
  obtain ⟨pss, rfl, hf⟩ := h.fields Tryz.underlying53
  match pss, hf with
  | [a, b, c, d, e], ⟨ha, hb, hc, hd, he, _⟩ =>
    obtain ⟨a, rfl, _⟩ := shp_int ha
    obtain ⟨b, rfl, _⟩ := shp_int hb
    obtain ⟨c, rfl⟩ := shp_bytes hc
    obtain ⟨d, rfl⟩ := shp_bytes hd
    obtain ⟨e, rfl⟩ := shp_bytes he
    exact ⟨⟨a, b, c, d, e⟩, rfl⟩
theorem shp_refs {ps : List PV} (h : Shp Tryz.prog 55 ps) : ∃ a b c : Fm, ps = fmc a ++ (fmc b ++ fmc c) := by
  obtain ⟨pss, rfl, hf⟩ := h.fields Tryz.underlying55
  match pss, hf with
  | [a, b, c], ⟨ha, hb, hc, _⟩ =>
    obtain ⟨a, rfl⟩ := shp_frame ha
    obtain ⟨b, rfl⟩ := shp_frame hb
    obtain ⟨c, rfl⟩ := shp_frame hc
    exact ⟨a, b, c, by simp⟩

end Go.Proofs.YtahomnplappbpaaGreatDoor.Ln

namespace Go.Proofs.YtahomnplappbpaaGreatDoor.Sc
set_option linter.all false
set_option linter.unusedVariables false
set_option linter.unusedSimpArgs false
open Pm Ty Go.RowKit

/-! ### lists of numbers and samples, entry by entry -/
def rgI (n : Nat) (f : Nat → Int) : List Int := (List.range n).map f
theorem rgI_len (n : Nat) (f : Nat → Int) : (rgI n f).length = n := by simp [rgI]
theorem rgI_at {n : Nat} (f : Nat → Int) {i : Nat} (h : i < n) : intAt (rgI n f) i = f i := by simp [rgI, intAt, h]
theorem rgI_ext {n : Nat} {f g : Nat → Int} (h : ∀ i, i < n → f i = g i) : rgI n f = rgI n g := List.map_congr_left fun i hi => h i (List.mem_range.1 hi)
theorem rgI_set (n : Nat) (f : Nat → Int) (i : Nat) (v : Int) : (rgI n f).set i v = rgI n fun j => if j = i then v else f j := by
  apply List.ext_getElem
  · simp [rgI]
  intro j h1 h2
  simp only [rgI, List.getElem_set, List.getElem_map, List.getElem_range]
  by_cases hj : i = j
  · rw [if_pos hj, if_pos hj.symm]
  · rw [if_neg hj, if_neg (fun e => hj e.symm)]
theorem rgI_of (l : List Int) : rgI l.length (intAt l) = l := by
  apply List.ext_getElem
  · simp [rgI]
  intro j h1 h2
  simp [rgI, intAt, h2]
/-- A sample. -/
def u8 (v : Int) : UInt8 := UInt8.ofNat v.toNat
theorem u8_val {v : Int} (h : 0 ≤ v ∧ v ≤ 255) : ((u8 v).toNat : Int) = v := by
  unfold u8
  rw [UInt8.toNat_ofNat']
  omega
def rgB (n : Nat) (f : Nat → Int) : List UInt8 := (List.range n).map fun k => u8 (f k)
theorem rgB_len (n : Nat) (f : Nat → Int) : (rgB n f).length = n := by simp [rgB]
theorem rgB_snoc (n : Nat) (f : Nat → Int) : rgB (n + 1) f = rgB n f ++ [u8 (f n)] := by simp [rgB, List.range_succ]
theorem rgB_at {n : Nat} (f : Nat → Int) {i : Nat} (h : i < n) (hf : 0 ≤ f i ∧ f i ≤ 255) : byt (rgB n f) i = f i := by
  simp only [byt, rgB]
  rw [List.getD_eq_getElem?_getD, List.getElem?_map, List.getElem?_range h]
  exact u8_val hf
theorem rgB_ext {n : Nat} {f g : Nat → Int} (h : ∀ i, i < n → f i = g i) : rgB n f = rgB n g := List.map_congr_left fun i hi => by rw [h i (List.mem_range.1 hi)]
theorem byt_ext {p q : List UInt8} (hl : p.length = q.length) (h : ∀ i, i < p.length → byt p i = byt q i) : p = q := by
  apply List.ext_getElem hl
  intro i h1 h2
  have := h i h1
  simp only [byt, List.getD_eq_getElem?_getD, List.getElem?_eq_getElem h1, List.getElem?_eq_getElem h2, Option.getD_some] at this
  exact UInt8.toNat_inj.1 (by omega)
theorem byt_set (p : List UInt8) (i j : Nat) (v : UInt8) (h : i < p.length) : byt (p.set i v) j = if j = i then (v.toNat : Int) else byt p j := by
  simp only [byt, List.getD_eq_getElem?_getD, List.getElem?_set]
  by_cases hj : j = i
  · subst hj; simp [h]
  · rw [if_neg (fun e => hj e.symm), if_neg hj]
theorem byt_app_l {p q : List UInt8} {i : Nat} (h : i < p.length) : byt (p ++ q) i = byt p i := by
  simp only [byt, List.getD_eq_getElem?_getD, List.getElem?_append_left h]
theorem byt_app_r {p q : List UInt8} {i : Nat} (h : p.length ≤ i) : byt (p ++ q) i = byt q (i - p.length) := by
  simp only [byt, List.getD_eq_getElem?_getD, List.getElem?_append_right h]
theorem byt_take {p : List UInt8} {i n : Nat} (h : i < n) : byt (p.take n) i = byt p i := by
  simp only [byt, List.getD_eq_getElem?_getD, List.getElem?_take, if_pos h]
theorem byt_drop (p : List UInt8) (i n : Nat) : byt (p.drop n) i = byt p (n + i) := by
  simp only [byt, List.getD_eq_getElem?_getD, List.getElem?_drop]
theorem ctl_at (p : List UInt8) (a s w : Nat) : ∀ r, (∀ k, k < r → a + k * s + w ≤ p.length) → ∀ j c, j < r → c < w → byt (ctl p a s w r) (j * w + c) = byt p (a + j * s + c)
  | 0, _, j, c, hj, _ => by omega
  | r + 1, h, j, c, hj, hc => by
    have hr := h r (by omega)
    have hl := ctl_len p a s w r fun k hk => h k (by omega)
    rw [ctl_snoc]
    by_cases hjr : j = r
    · subst hjr
      rw [byt_app_r (by omega), hl, show j * w + c - j * w = c by omega, byt_take hc, byt_drop]
    · have h1 : j * w + w ≤ r * w := by
        have : (j + 1) * w ≤ r * w := Nat.mul_le_mul_right _ (by omega)
        rwa [Nat.succ_mul] at this
      rw [byt_app_l (by omega), ctl_at p a s w r (fun k hk => h k (by omega)) j c (by omega) hc]
/-- One row written into a plane. -/
def spl (p : List UInt8) (a : Nat) (z : List UInt8) : List UInt8 := p.take a ++ (z ++ p.drop (a + z.length))
theorem spl_len {p z : List UInt8} {a : Nat} (h : a + z.length ≤ p.length) : (spl p a z).length = p.length := by simp [spl]; omega
theorem spl_at {p z : List UInt8} {a : Nat} (h : a + z.length ≤ p.length) (i : Nat) : byt (spl p a z) i = if a ≤ i ∧ i < a + z.length then byt z (i - a) else byt p i := by
  have hl : (p.take a).length = a := by simp; omega
  unfold spl
  by_cases h1 : i < a
  · rw [byt_app_l (by omega), byt_take h1, if_neg (by omega)]
  · rw [byt_app_r (by omega), hl]
    by_cases h2 : i < a + z.length
    · rw [byt_app_l (by omega), if_pos ⟨by omega, h2⟩]
    · rw [byt_app_r (by omega), byt_drop, if_neg (by omega)]
      congr 1; omega
/-- r rows of w samples, s apart, from a on, are replaced. -/
def pst (p : List UInt8) (a s w : Nat) (z : List UInt8) : Nat → List UInt8
  | 0 => p
  | r + 1 => spl (pst p a s w z r) (a + r * s) ((z.drop (r * w)).take w)
theorem row_len {z : List UInt8} {w r j : Nat} (hz : z.length = r * w) (hj : j < r) : ((z.drop (j * w)).take w).length = w := by
  have : (j + 1) * w ≤ r * w := Nat.mul_le_mul_right _ (by omega)
  rw [Nat.succ_mul] at this
  simp; omega
theorem pst_len {p : List UInt8} {a s w : Nat} {z : List UInt8} {m : Nat} (hz : z.length = m * w) : ∀ r, r ≤ m → (∀ k, k < r → a + k * s + w ≤ p.length) → (pst p a s w z r).length = p.length
  | 0, _, _ => rfl
  | r + 1, hr, h => by
    have ih := pst_len (p := p) (a := a) (s := s) hz r (by omega) fun k hk => h k (by omega)
    have hl := row_len hz (show r < m by omega)
    have := h r (by omega)
    rw [pst, spl_len (by omega), ih]
theorem pst_hit {p : List UInt8} {a s w : Nat} {z : List UInt8} {m : Nat} (hz : z.length = m * w) (hs : w ≤ s) : ∀ r, r ≤ m → (∀ k, k < r → a + k * s + w ≤ p.length) → ∀ j c, j < r → c < w → byt (pst p a s w z r) (a + j * s + c) = byt z (j * w + c)
  | 0, _, _, j, c, hj, _ => by omega
  | r + 1, hr, h, j, c, hj, hc => by
    have hpl := pst_len (p := p) (a := a) (s := s) hz r (by omega) fun k hk => h k (by omega)
    have ih := pst_hit (p := p) (a := a) hz hs r (by omega) fun k hk => h k (by omega)
    have hl := row_len hz (show r < m by omega)
    have := h r (by omega)
    rw [pst, spl_at (by omega)]
    by_cases hjr : j = r
    · subst hjr
      rw [if_pos (by omega), show a + j * s + c - (a + j * s) = c by omega, byt_take hc, byt_drop]
    · obtain ⟨d, rfl⟩ : ∃ d, r = j + 1 + d := ⟨r - (j + 1), by omega⟩
      have e : (j + 1 + d) * s = j * s + s + d * s := by rw [Nat.add_mul, Nat.add_mul, Nat.one_mul]
      rw [if_neg (by omega), ih j c (by omega) hc]
theorem pst_miss {p : List UInt8} {a s w : Nat} {z : List UInt8} {m : Nat} (hz : z.length = m * w) {i : Nat} : ∀ r, r ≤ m → (∀ k, k < r → a + k * s + w ≤ p.length) → (∀ j, j < r → ¬ (a + j * s ≤ i ∧ i < a + j * s + w)) → byt (pst p a s w z r) i = byt p i
  | 0, _, _, _ => rfl
  | r + 1, hr, h, hm => by
    have hpl := pst_len (p := p) (a := a) (s := s) hz r (by omega) fun k hk => h k (by omega)
    have ih := pst_miss (p := p) (a := a) (s := s) hz (i := i) r (by omega) (fun k hk => h k (by omega)) fun j hj => hm j (by omega)
    have hl := row_len hz (show r < m by omega)
    have := h r (by omega)
    have := hm r (by omega)
    rw [pst, spl_at (by omega), if_neg (by omega), ih]

/-! ### sums -/
def sumN (f : Nat → Int) : Nat → Int
  | 0 => 0
  | n + 1 => sumN f n + f n
theorem sumN_bd {f : Nat → Int} {B : Int} (h : ∀ j, -B ≤ f j ∧ f j ≤ B) : ∀ n : Nat, -(n * B) ≤ sumN f n ∧ sumN f n ≤ n * B
  | 0 => by simp [sumN]
  | n + 1 => by
    have ih := sumN_bd h n
    have hn := h n
    have e : ((n + 1 : Nat) : Int) * B = n * B + B := by rw [Int.natCast_add, Int.add_mul]; simp
    rw [sumN, e]
    omega
theorem mul_bd {a b A B : Int} (ha : -A ≤ a ∧ a ≤ A) (hb : -B ≤ b ∧ b ≤ B) : -(A * B) ≤ a * b ∧ a * b ≤ A * B := by
  have h1 : a.natAbs ≤ A.toNat := by omega
  have h2 : b.natAbs ≤ B.toNat := by omega
  have h3 := Nat.mul_le_mul h1 h2
  rw [← Int.natAbs_mul] at h3
  have h4 : ((A.toNat * B.toNat : Nat) : Int) = A * B := by
    rw [Int.natCast_mul, Int.toNat_of_nonneg (by omega), Int.toNat_of_nonneg (by omega)]
  omega

end Go.Proofs.YtahomnplappbpaaGreatDoor.Sc
