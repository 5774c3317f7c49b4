/-
  Parts of the proof, put together in one text. No condition.
-/
import Derived.Test.YtahomnplappbpaaGreatDoorW31
namespace Go.Proofs.YtahomnplappbpaaGreatDoor.Sc
set_option linter.all false
set_option linter.unusedVariables false
set_option linter.unusedSimpArgs false
open Pm Ty Go.RowKit

/-- Two fields, and the frame of both. -/
structure Hok (V K : Nat) (f : Fm) : Prop where
  w : f.w = ((2 * V : Nat) : Int)
  h : f.h = ((2 * K : Nat) : Int)
  rv : 1 ≤ V ∧ V ≤ 32
  rk : 1 ≤ K ∧ K ≤ 16
  ly : f.y.length = 2 * K * (2 * V)
  lu : f.u.length = K * V
  lv : f.v.length = K * V
def wovG (V K : Nat) (a b : Fm) : Fm := ⟨((2 * V : Nat) : Int), ((4 * K : Nat) : Int), wov a.y b.y (2 * V) (2 * K), wov a.u b.u V K, wov a.v b.v V K⟩
theorem wovG_F (a b : Fm) : wovG 8 4 a b = wovF a b := rfl
theorem Hok.fmd {V K : Nat} {f : Fm} (h : Hok V K f) : fmd f = true := by
  obtain ⟨w, ht, y, u, v⟩ := f
  obtain ⟨hw, hh, ⟨v1, v2⟩, ⟨k1, k2⟩, ly, lu, lv⟩ := h
  simp only at hw hh ly lu lv
  subst hw hh
  have e1 : ((2 * V : Nat) : Int) / 2 = (V : Int) := by omega
  have e2 : ((2 * K : Nat) : Int) / 2 = (K : Int) := by omega
  have a1 : fsz ((2 * V : Nat) : Int) ((2 * K : Nat) : Int) = true := by
    simp only [fsz, Bool.and_eq_true, decide_eq_true_eq]
    omega
  have a2 : ((2 * K * (2 * V) : Nat) : Int) = ((2 * V : Nat) : Int) * ((2 * K : Nat) : Int) := by rw [Nat.mul_comm]; exact Int.natCast_mul _ _
  have a3 : ((K * V : Nat) : Int) = (V : Int) * (K : Int) := by rw [Nat.mul_comm]; exact Int.natCast_mul _ _
  simp only [Sc.fmd, a1, e1, e2, ly, lu, lv, a2, a3, decide_true, Bool.and_self]

set_option maxHeartbeats 6400000 in
set_option maxRecDepth 100000 in
theorem weave_ok (V K : Nat) (a b : Fm) (ha : Hok V K a) (hb : Hok V K b) (H : Heap) : CallOk Tryz.prog 232 [.agg (fmc a), .agg (fmc b)] H (.tup [.agg (fmc (wovG V K a b)), .int .i64 0]) H := by
  have fa := fun L => formed_ok a L
  have fb := fun L => formed_ok b L
  rw [ha.fmd] at fa
  rw [hb.fmd] at fb
  obtain ⟨w, ht, y, u, v⟩ := a
  obtain ⟨w', ht', y', u', v'⟩ := b
  obtain ⟨hw, hh, ⟨v1, v2⟩, ⟨k1, k2⟩, ly, lu, lv⟩ := ha
  obtain ⟨hw', hh', _, _, ly', lu', lv'⟩ := hb
  simp only at hw hh ly lu lv hw' hh' ly' lu' lv'
  subst hw hh hw' hh'
  have bN1 : 2 * K * (2 * (2 * V)) ≤ 32 * 128 := Nat.mul_le_mul (by omega) (by omega)
  have bN2 : K * (2 * V) ≤ 16 * 64 := Nat.mul_le_mul (by omega) (by omega)
  have bn1 : 2 * K * (2 * V) ≤ 32 * 64 := Nat.mul_le_mul (by omega) (by omega)
  have bn2 : K * V ≤ 16 * 32 := Nat.mul_le_mul (by omega) (by omega)
  have x1 : (2 : Int) * ((2 * K : Nat) : Int) = ((4 * K : Nat) : Int) := by omega
  have x2 : (2 : Int) * ((2 * V : Nat) : Int) = ((2 * (2 * V) : Nat) : Int) := by omega
  have x3 : ((2 * (2 * V) : Nat) : Int) * ((2 * K : Nat) : Int) = ((2 * K * (2 * (2 * V)) : Nat) : Int) := by rw [Nat.mul_comm (2 * K)]; exact (Int.natCast_mul _ _).symm
  have x4 : ((2 * V : Nat) : Int) * ((2 * K : Nat) : Int) = ((K * (2 * V) * 2 : Nat) : Int) := by
    rw [← Int.natCast_mul]; congr 1; rw [Nat.mul_comm (2 * V), Nat.mul_comm 2 K, Nat.mul_right_comm]
  have x5 : ((K * (2 * V) * 2 : Nat) : Int).tdiv 2 = ((K * (2 * V) : Nat) : Int) := by rw [tdiv_pos _ _ (by omega)]; omega
  have y0 : (0 : Int) * ((2 * V : Nat) : Int) = ((0 : Nat) : Int) := by simp
  have y1 : ((0 : Int) + 1) * ((2 * V : Nat) : Int) = ((2 * V : Nat) : Int) := by simp
  have y2 : ((2 * V : Nat) : Int).tdiv 2 = (V : Int) := by rw [tdiv_pos _ _ (by omega)]; omega
  have y3 : ((0 : Nat) : Int).tdiv 2 = ((0 : Nat) : Int) := rfl
  have y4 : ((2 * K : Nat) : Int).tdiv 2 = (K : Int) := by rw [tdiv_pos _ _ (by omega)]; omega
  obtain ⟨Z1, hZ1, z1⟩ : ∃ Z : List UInt8, Z = List.replicate (2 * K * (2 * (2 * V))) 0 ∧ Z.length = 2 * K * (2 * (2 * V)) := ⟨_, rfl, List.length_replicate⟩
  obtain ⟨Z2, hZ2, z2⟩ : ∃ Z : List UInt8, Z = List.replicate (K * (2 * V)) 0 ∧ Z.length = K * (2 * V) := ⟨_, rfl, List.length_replicate⟩
  have r1 : (List.replicate (2 * K * (2 * (2 * V))) [PV.int .u8 0]).flatten = bs Z1 := by rw [hZ1]; exact bs_zero _
  have r2 : (List.replicate (K * (2 * V)) [PV.int .u8 0]).flatten = bs Z2 := by rw [hZ2]; exact bs_zero _
  have fit := fun (W M L P : Nat) (hP : P ≤ 1) (hL : L = M * (2 * W)) k (hk : k < M) => (show P * W + k * (2 * W) + W ≤ L by
    have h1 : (k + 1) * (2 * W) ≤ M * (2 * W) := Nat.mul_le_mul_right _ (by omega)
    rw [Nat.add_mul] at h1
    have : P * W ≤ W := by
      have : P = 0 ∨ P = 1 := by omega
      rcases this with rfl | rfl <;> simp
    omega)
  have f1a : ∀ k, k < 2 * K → 0 + k * (2 * (2 * V)) + 2 * V ≤ Z1.length := fun k hk => by have := fit (2 * V) (2 * K) Z1.length 0 (by omega) z1 k hk; simpa using this
  have f2a : ∀ k, k < K → 0 + k * (2 * V) + V ≤ Z2.length := fun k hk => by have := fit V K Z2.length 0 (by omega) z2 k hk; simpa using this
  have l1 : (pst Z1 0 (2 * (2 * V)) (2 * V) y (2 * K)).length = Z1.length := pst_len ly _ (Nat.le_refl _) f1a
  have l2 : (pst Z2 0 (2 * V) V u K).length = Z2.length := pst_len lu _ (Nat.le_refl _) f2a
  have l3 : (pst Z2 0 (2 * V) V v K).length = Z2.length := pst_len lv _ (Nat.le_refl _) f2a
  have p1 := fun L hr => paste_ok Z1 y (H.length + 3) 1 0 (2 * (2 * V)) (2 * V) (2 * K) true false L hr (by omega) (by omega) (by omega) ly f1a (by omega)
  have p2 := fun L hr => paste_ok Z2 u (H.length + 4) 1 0 (2 * V) V K true false L hr (by omega) (by omega) (by omega) lu f2a (by omega)
  have p3 := fun L hr => paste_ok Z2 v (H.length + 5) 1 0 (2 * V) V K true false L hr (by omega) (by omega) (by omega) lv f2a (by omega)
  have q1 := fun L hr => paste_ok (pst Z1 0 (2 * (2 * V)) (2 * V) y (2 * K)) y' (H.length + 3) 1 (2 * V) (2 * (2 * V)) (2 * V) (2 * K) true false L hr (by omega) (by omega) (by omega) ly' (fun k hk => by have := fit (2 * V) (2 * K) Z1.length 1 (by omega) z1 k hk; rw [l1]; simpa using this) (by omega)
  have q2 := fun L hr => paste_ok (pst Z2 0 (2 * V) V u K) u' (H.length + 4) 1 V (2 * V) V K true false L hr (by omega) (by omega) (by omega) lu' (fun k hk => by have := fit V K Z2.length 1 (by omega) z2 k hk; rw [l2]; simpa using this) (by omega)
  have q3 := fun L hr => paste_ok (pst Z2 0 (2 * V) V v K) v' (H.length + 5) 1 V (2 * V) V K true false L hr (by omega) (by omega) (by omega) lv' (fun k hk => by have := fit V K Z2.length 1 (by omega) z2 k hk; rw [l3]; simpa using this) (by omega)
  rw [pst_wov ly ly' z1, l1, z1] at q1
  rw [pst_wov lu lu' z2, l2, z2] at q2
  rw [pst_wov lv lv' z2, l3, z2] at q3
  rw [z1] at p1
  rw [z2] at p2 p3
  have w1 : (wov y y' (2 * V) (2 * K)).length = 2 * K * (2 * (2 * V)) := wov_len ly ly' _ (Nat.le_refl _)
  have w2 : (wov u u' V K).length = K * (2 * V) := wov_len lu lu' _ (Nat.le_refl _)
  have w3 : (wov v v' V K).length = K * (2 * V) := wov_len lv lv' _ (Nat.le_refl _)
  simp only [fmc, wovG, w1, w2, w3, ly, lu, lv, ly', lu', lv'] at fa fb p1 p2 p3 q1 q2 q3 ⊢
  generalize pst Z1 0 (2 * (2 * V)) (2 * V) y (2 * K) = T1 at p1 q1 l1
  generalize pst Z2 0 (2 * V) V u K = T2 at p2 q2 l2
  generalize pst Z2 0 (2 * V) V v K = T3 at p3 q3 l3
  generalize wov y y' (2 * V) (2 * K) = W1 at q1 w1 ⊢
  generalize wov u u' V K = W2 at q2 w2 ⊢
  generalize wov v v' V K = W3 at q3 w3 ⊢
  clear hZ1 hZ2 f1a f2a fit
  refine CallOk.body (F0 := [(0, .agg [.int .i64 ((2 * V : Nat) : Int), .int .i64 ((2 * K : Nat) : Int), .slice (bs y) (2 * K * (2 * V)) false, .slice (bs u) (K * V) false, .slice (bs v) (K * V) false]), (1, .agg [.int .i64 ((2 * V : Nat) : Int), .int .i64 ((2 * K : Nat) : Int), .slice (bs y') (2 * K * (2 * V)) false, .slice (bs u') (K * V) false, .slice (bs v') (K * V) false])]) Tryz.func232 rfl Tryz.ntmps232 Tryz.results232 rfl (by kernel_rfl) rfl ?_
  (repeat refine PW.seq ?_); refine PW.rg rfl fun K hK => ?_; simp (maxSteps := 3000000) (disch := omega) only [go_sem, ↓reduceIte, reduceCtorEq, pappend, plen]; refine hK _ _ ?_; clear hK K
  (repeat refine PW.seq ?_)
  refine PW.rgv (P := Tryz.prog) [2, 3, 4, 5] 38 (.bool false) ?_ ?_ ?_
  · rfl
  · simp (maxSteps := 3000000) (disch := omega) only [go_sem, ↓reduceIte, reduceCtorEq, pappend, plen]; (repeat' (first | ((first | refine VO_cond ?_ ?_ | refine VOd_cond ?_ ?_ | refine VOg_cond ?_ ?_ | refine VOh_cond ?_ ?_ | refine VOi_cond ?_ ?_ | refine And.intro ?_ ?_) <;> intro h <;> (try simp only [Bool.not_eq_true', Bool.not_eq_false', decide_eq_true_eq, decide_eq_false_iff_not] at h) <;> simp (maxSteps := 3000000) (disch := omega) only [go_sem, ↓reduceIte, reduceCtorEq, pappend, plen, h]) | ((first | refine VCx.call (fa _) rfl ?_ | refine VCx.call (fb _) rfl ?_ | refine VCy.call (fa _) rfl ?_ | refine VCy.call (fb _) rfl ?_ | refine VCz.call (fun _ => fa _) rfl ?_ | refine VCz.call (fun _ => fb _) rfl ?_ | refine VCk.call (fun _ _ => fa _) rfl ?_ | refine VCk.call (fun _ _ => fb _) rfl ?_ | refine VCj.now (fa _) rfl ?_ | refine VCj.now (fb _) rfl ?_); simp (maxSteps := 3000000) (disch := omega) only [go_sem, ↓reduceIte, reduceCtorEq, pappend, plen])))
    all_goals (simp_all [slot, Nat.beq] <;> first | rfl | omega | (rw [Bool.eq_iff_iff]; simp; done) | (rw [Bool.eq_iff_iff]; simp; omega))
  (repeat refine PW.seq ?_); refine PW.cond (t := _) rfl (fun h => ?_) (fun h => ?_)
  · cases h
  refine PW.skip ?_
  (repeat refine PW.seq ?_); refine PW.draw mix (by kernel_rfl) fun K hK => ?_; simp (maxSteps := 3000000) (disch := omega) only [go_sem, ↓reduceIte, reduceCtorEq, pappend, plen]; refine hK _ _ ?_; clear hK K
  refine PW.view (Vs.place 5) ?_
  refine PW.view (Vs.place 5) ?_
  refine PW.view (Vs.place 5) ?_
  refine PW.view (Vs.place 53) ?_
  (repeat refine PW.seq ?_); refine PW.drawi [H.length + 3, H.length + 4, H.length + 5, H.length + 6] [(51, [0]), (56, [1]), (61, [2]), (8, [3])] [(51, 0), (56, 1), (61, 2), (8, 3)] [] mix (by kernel_rfl) (by simp <;> omega) fun K hK => ?_
  simp (maxSteps := 3000000) (disch := omega) only [go_sem, ↓reduceIte, reduceCtorEq, pappend, plen, arith, x1, x2, x3, x4, x5]
  refine hK _ _ ?_; clear hK K
  rw [r1, r2]
  (repeat refine PW.seq ?_); refine PW.rg rfl fun K hK => ?_; simp (maxSteps := 3000000) (disch := omega) only [go_sem, ↓reduceIte, reduceCtorEq, pappend, plen]; refine hK _ _ ?_; clear hK K
  (repeat refine PW.seq ?_); refine PW.block (PW.loop ?_)
  refine PL.round ?_; (repeat refine PW.seq ?_); refine PW.rg rfl fun K hK => ?_; simp (maxSteps := 3000000) (disch := omega) only [go_sem, ↓reduceIte, reduceCtorEq, pappend, plen]; refine hK _ _ ?_; clear hK K; (repeat refine PW.seq ?_); refine PW.cond (t := _) rfl (fun h => ?_) (fun h => ?_)
  rotate_left
  · cases h
  refine PW.skip ?_; (repeat refine PW.seq ?_); refine PW.block ?_
  (repeat refine PW.seq ?_); refine PW.rg rfl fun K hK => ?_; simp (maxSteps := 3000000) (disch := omega) only [go_sem, ↓reduceIte, reduceCtorEq, pappend, plen]; refine hK _ _ ?_; clear hK K
  (repeat refine PW.seq ?_); refine PW.rg rfl fun K hK => ?_; simp (maxSteps := 3000000) (disch := omega) only [go_sem, ↓reduceIte, reduceCtorEq, pappend, plen, y0, x2]; refine VCx.call (p1 _ (apn _ _ 3)) rfl ?_; simp (maxSteps := 3000000) (disch := omega) only [go_sem, ↓reduceIte, reduceCtorEq, pappend, plen, y0, x2]; refine hK _ _ ?_; clear hK K
  (repeat refine PW.seq ?_); refine PW.rg rfl fun K hK => ?_; simp (maxSteps := 3000000) (disch := omega) only [go_sem, ↓reduceIte, reduceCtorEq, pappend, plen, y0, x2, y2, y3, y4]; refine VCx.call (p2 _ (apn _ _ 4)) rfl ?_; simp (maxSteps := 3000000) (disch := omega) only [go_sem, ↓reduceIte, reduceCtorEq, pappend, plen, y0, x2, y2, y3, y4]; refine hK _ _ ?_; clear hK K
  (repeat refine PW.seq ?_); refine PW.rg rfl fun K hK => ?_; simp (maxSteps := 3000000) (disch := omega) only [go_sem, ↓reduceIte, reduceCtorEq, pappend, plen, y0, x2, y2, y3, y4]; refine VCx.call (p3 _ (apn _ _ 5)) rfl ?_; simp (maxSteps := 3000000) (disch := omega) only [go_sem, ↓reduceIte, reduceCtorEq, pappend, plen, y0, x2, y2, y3, y4]; refine hK _ _ ?_; clear hK K
  (repeat refine PW.seq ?_); refine PW.rg rfl fun K hK => ?_; simp (maxSteps := 3000000) (disch := omega) only [go_sem, ↓reduceIte, reduceCtorEq, pappend, plen]; refine hK _ _ ?_; clear hK K
  refine PL.round ?_; (repeat refine PW.seq ?_); refine PW.rg rfl fun K hK => ?_; simp (maxSteps := 3000000) (disch := omega) only [go_sem, ↓reduceIte, reduceCtorEq, pappend, plen]; refine hK _ _ ?_; clear hK K; (repeat refine PW.seq ?_); refine PW.cond (t := _) rfl (fun h => ?_) (fun h => ?_)
  rotate_left
  · cases h
  refine PW.skip ?_; (repeat refine PW.seq ?_); refine PW.block ?_
  (repeat refine PW.seq ?_); refine PW.rg rfl fun K hK => ?_; simp (maxSteps := 3000000) (disch := omega) only [go_sem, ↓reduceIte, reduceCtorEq, pappend, plen]; refine hK _ _ ?_; clear hK K
  (repeat refine PW.seq ?_); refine PW.rg rfl fun K hK => ?_; simp (maxSteps := 3000000) (disch := omega) only [go_sem, ↓reduceIte, reduceCtorEq, pappend, plen, y1, x2]; refine VCx.call (q1 _ (apn _ _ 3)) rfl ?_; simp (maxSteps := 3000000) (disch := omega) only [go_sem, ↓reduceIte, reduceCtorEq, pappend, plen, y1, x2]; refine hK _ _ ?_; clear hK K
  (repeat refine PW.seq ?_); refine PW.rg rfl fun K hK => ?_; simp (maxSteps := 3000000) (disch := omega) only [go_sem, ↓reduceIte, reduceCtorEq, pappend, plen, y1, x2, y2, y3, y4]; refine VCx.call (q2 _ (apn _ _ 4)) rfl ?_; simp (maxSteps := 3000000) (disch := omega) only [go_sem, ↓reduceIte, reduceCtorEq, pappend, plen, y1, x2, y2, y3, y4]; refine hK _ _ ?_; clear hK K
  (repeat refine PW.seq ?_); refine PW.rg rfl fun K hK => ?_; simp (maxSteps := 3000000) (disch := omega) only [go_sem, ↓reduceIte, reduceCtorEq, pappend, plen, y1, x2, y2, y3, y4]; refine VCx.call (q3 _ (apn _ _ 5)) rfl ?_; simp (maxSteps := 3000000) (disch := omega) only [go_sem, ↓reduceIte, reduceCtorEq, pappend, plen, y1, x2, y2, y3, y4]; refine hK _ _ ?_; clear hK K
  (repeat refine PW.seq ?_); refine PW.rg rfl fun K hK => ?_; simp (maxSteps := 3000000) (disch := omega) only [go_sem, ↓reduceIte, reduceCtorEq, pappend, plen]; refine hK _ _ ?_; clear hK K
  refine PL.round ?_; (repeat refine PW.seq ?_); refine PW.rg rfl fun K hK => ?_; simp (maxSteps := 3000000) (disch := omega) only [go_sem, ↓reduceIte, reduceCtorEq, pappend, plen]; refine hK _ _ ?_; clear hK K; (repeat refine PW.seq ?_); refine PW.cond (t := _) rfl (fun h => ?_) (fun h => ?_)
  · cases h
  refine PW.exit ?_
  (repeat refine PW.seq ?_); refine PW.rg rfl fun K hK => ?_; simp (maxSteps := 3000000) (disch := omega) only [go_sem, ↓reduceIte, reduceCtorEq, pappend, plen]; refine hK _ _ ?_; clear hK K
  refine PW.ret ⟨.tup [.agg [.int .i64 ((2 * V : Nat) : Int), .int .i64 ((4 * K : Nat) : Int), .msl (H.length + 3) 1 0 (2 * K * (2 * (2 * V))) 1 true, .msl (H.length + 4) 1 0 (K * (2 * V)) 1 true, .msl (H.length + 5) 1 0 (K * (2 * V)) 1 true], .int .i64 0], by simp (maxSteps := 3000000) (disch := omega) only [go_sem, ↓reduceIte, reduceCtorEq, pappend, plen, presults, presult, List.mapM_cons, List.mapM_nil, Option.pure_def, Option.bind_eq_bind, Option.bind_some, Array.toList], ?_⟩
  refine Fin.base (Fz.tupC ⟨Fz.aggC ⟨.id (.int _ _), .id (.int _ _), Fz.mslC (e := 5) (xs := bs W1) (by omega) (apn _ _ 3) (by rw [length_bs]; omega) (FzC.refl (bs_scoped _ _)), Fz.mslC (e := 5) (xs := bs W2) (by omega) (apn _ _ 4) (by rw [length_bs]; omega) (FzC.refl (bs_scoped _ _)), Fz.mslC (e := 5) (xs := bs W3) (by omega) (apn _ _ 5) (by rw [length_bs]; omega) (FzC.refl (bs_scoped _ _)), trivial⟩, .id (.int _ _), trivial⟩)

end Go.Proofs.YtahomnplappbpaaGreatDoor.Sc
