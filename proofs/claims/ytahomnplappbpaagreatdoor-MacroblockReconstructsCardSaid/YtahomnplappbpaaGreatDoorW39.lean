/-
  Parts of the proof, put together in one text. No condition.
-/
import Derived.Test.YtahomnplappbpaaGreatDoorW38
import Derived.Test.YtahomnplappbpaaGreatDoorW32
import Derived.Test.YtahomnplappbpaaGreatDoorW33
import Derived.Test.YtahomnplappbpaaGreatDoorW36
namespace Go.Proofs.YtahomnplappbpaaGreatDoor.Sc
set_option linter.all false
set_option linter.unusedVariables false
set_option linter.unusedSimpArgs false
open Pm Ty Go.RowKit

theorem pxl_shift (p : List UInt8) (W R x y vx vy : Int) : pxl p W R 0 0 (2 * x + vx) (2 * y + vy) = pxl p W R x y vx vy := by
  have e1 : (0 : Int) + (2 * x + vx) / 2 = x + vx / 2 := by omega
  have e2 : (0 : Int) + (2 * y + vy) / 2 = y + vy / 2 := by omega
  have e3 : (2 * x + vx) % 2 = vx % 2 := by omega
  have e4 : (2 * y + vy) % 2 = vy % 2 := by omega
  unfold pxl
  rw [e1, e2, e3, e4]

set_option maxHeartbeats 1600000 in
theorem smp_ref (p : List UInt8) (W R : Nat) (x y : Int) (f : Bool) (H : Heap) (hp : p.length = W * R) (hW : 1 ≤ W ∧ W ≤ 64) (hR : 1 ≤ R ∧ R ≤ 64) :
    CallOk Tryz.prog 270 [.slice (bs p) p.length f, .int .i64 (W : Int), .int .i64 x, .int .i64 y] H (.int .i64 (smp p W R x y)) H := by
  have s1 : smp p W R x y = byt p (clm y R * W + clm x W).toNat := rfl
  obtain ⟨a, ea, la⟩ := clm_nat (i := x) hW.1
  obtain ⟨u, eu, lu⟩ := clm_nat (i := y) hR.1
  rw [ea, eu] at s1
  have bg : W * R ≤ 64 * 64 := Nat.mul_le_mul (by omega) (by omega)
  have k1 := at_lt la lu
  have e0 : (u : Int) * (W : Int) = ((u * W : Nat) : Int) := by simp
  have e2 : ((u * W : Nat) : Int) + (a : Int) = ((u * W + a : Nat) : Int) := by omega
  rw [e0, e2, Int.toNat_natCast] at s1
  rw [s1]
  have r1 := byt_range p (u * W + a)
  have hd : ((p.length : Nat) : Int).tdiv (W : Int) = (R : Int) := by
    rw [hp, tdiv_pos _ _ (by omega), Int.natCast_mul, Int.mul_ediv_cancel_left _ (by omega)]
  have c1 : (if (if (R : Int) - 1 < y then (R : Int) - 1 else y) > 0 then (if (R : Int) - 1 < y then (R : Int) - 1 else y) else 0) = (u : Int) := by rw [← eu]; unfold clm; omega
  have c2 : (if (if (W : Int) - 1 < x then (W : Int) - 1 else x) > 0 then (if (W : Int) - 1 < x then (W : Int) - 1 else x) else 0) = (a : Int) := by rw [← ea]; unfold clm; omega
  refine CallOk.body (F0 := [(0, .slice (bs p) p.length f), (1, .int .i64 (W : Int)), (2, .int .i64 x), (3, .int .i64 y)]) Tryz.func270 rfl Tryz.ntmps270 Tryz.results270 rfl (by kernel_rfl) rfl ?_
  (repeat refine PW.seq ?_); refine PW.rg rfl fun K hK => ?_; simp (maxSteps := 3000000) (disch := omega) only [go_sem, ↓reduceIte, reduceCtorEq, pappend, plen]; refine hK _ _ ?_; clear hK K
  (repeat refine PW.seq ?_); refine PW.rg rfl fun K hK => ?_; simp (maxSteps := 3000000) (disch := omega) only [go_sem, ↓reduceIte, reduceCtorEq, pappend, plen, hd]; refine hK _ _ ?_; clear hK K
  (repeat refine PW.seq ?_); refine PW.rg rfl fun K hK => ?_; simp (maxSteps := 3000000) (disch := omega) only [go_sem, ↓reduceIte, reduceCtorEq, pappend, plen, c1, c2, e0, e2, bs_get, length_bs]; refine hK _ _ ?_; clear hK K
  (refine PW.ret ⟨_, rfl, ?_⟩; first | refine .inl ⟨?_, rfl⟩ | refine Fin.base (.id' ?_ (.bool _)) | refine Fin.base (.id' ?_ (.int _ _)))
  rfl

set_option maxHeartbeats 1600000 in
theorem halfR_ref (p : List UInt8) (W R : Nat) (a b : Int) (f : Bool) (H : Heap) (hp : p.length = W * R) (hW : 1 ≤ W ∧ W ≤ 64) (hR : 1 ≤ R ∧ R ≤ 64) (ha : -200 ≤ a ∧ a ≤ 400 ∧ -200 ≤ b ∧ b ≤ 400) :
    CallOk Tryz.prog 237 [.slice (bs p) p.length f, .int .i64 (W : Int), .int .i64 a, .int .i64 b] H (.int .u8 (pxl p W R 0 0 a b)) H := by
  have a1 := pand1_v a (by omega)
  have a2 := pand1_v b (by omega)
  have s1 := fun L => smp_ref p W R (a / 2) (b / 2) f L hp hW hR
  have s2 := fun L => smp_ref p W R (a / 2 + a % 2) (b / 2) f L hp hW hR
  have s3 := fun L => smp_ref p W R (a / 2) (b / 2 + b % 2) f L hp hW hR
  have s4 := fun L => smp_ref p W R (a / 2 + a % 2) (b / 2 + b % 2) f L hp hW hR
  have r1 := smp_bd p W R (a / 2) (b / 2)
  have r2 := smp_bd p W R (a / 2 + a % 2) (b / 2)
  have r3 := smp_bd p W R (a / 2) (b / 2 + b % 2)
  have r4 := smp_bd p W R (a / 2 + a % 2) (b / 2 + b % 2)
  have hx : a % 2 = 0 → smp p W R (a / 2 + a % 2) (b / 2) = smp p W R (a / 2) (b / 2) ∧ smp p W R (a / 2 + a % 2) (b / 2 + b % 2) = smp p W R (a / 2) (b / 2 + b % 2) := fun h => by rw [h, Int.add_zero]; exact ⟨rfl, rfl⟩
  have hy : b % 2 = 0 → smp p W R (a / 2) (b / 2 + b % 2) = smp p W R (a / 2) (b / 2) ∧ smp p W R (a / 2 + a % 2) (b / 2 + b % 2) = smp p W R (a / 2 + a % 2) (b / 2) := fun h => by rw [h, Int.add_zero]; exact ⟨rfl, rfl⟩
  have hpx : pxl p W R 0 0 a b = (smp p W R (a / 2) (b / 2) + smp p W R (a / 2 + a % 2) (b / 2) + smp p W R (a / 2) (b / 2 + b % 2) + smp p W R (a / 2 + a % 2) (b / 2 + b % 2) + 2) / 4 := by unfold pxl; simp only [Int.zero_add]
  rw [hpx]
  generalize smp p W R (a / 2) (b / 2) = S1 at *
  generalize smp p W R (a / 2 + a % 2) (b / 2) = S2 at *
  generalize smp p W R (a / 2) (b / 2 + b % 2) = S3 at *
  generalize smp p W R (a / 2 + a % 2) (b / 2 + b % 2) = S4 at *
  refine CallOk.body (F0 := [(0, .slice (bs p) p.length f), (1, .int .i64 (W : Int)), (2, .int .i64 a), (3, .int .i64 b)]) Tryz.func237 rfl Tryz.ntmps237 Tryz.results237 rfl (by kernel_rfl) rfl ?_
  (repeat refine PW.seq ?_); refine PW.rg rfl fun K hK => ?_; simp (maxSteps := 3000000) (disch := omega) only [go_sem, ↓reduceIte, reduceCtorEq, pappend, plen]; refine hK _ _ ?_; clear hK K
  (repeat refine PW.seq ?_); refine PW.rg rfl fun K hK => ?_; simp (maxSteps := 3000000) (disch := omega) only [go_sem, ↓reduceIte, reduceCtorEq, pappend, plen, pshr1_v]; refine hK _ _ ?_; clear hK K
  (repeat refine PW.seq ?_); refine PW.rg rfl fun K hK => ?_; simp (maxSteps := 3000000) (disch := omega) only [go_sem, ↓reduceIte, reduceCtorEq, pappend, plen, a1, a2]; refine hK _ _ ?_; clear hK K
  (repeat refine PW.seq ?_); refine PW.rg rfl fun K hK => ?_; simp (maxSteps := 3000000) (disch := omega) only [go_sem, ↓reduceIte, reduceCtorEq, pappend, plen]; refine VCx.call (s1 _) rfl ?_; simp (maxSteps := 3000000) (disch := omega) only [go_sem, ↓reduceIte, reduceCtorEq, pappend, plen]; refine VCx.call (s2 _) rfl ?_; simp (maxSteps := 3000000) (disch := omega) only [go_sem, ↓reduceIte, reduceCtorEq, pappend, plen]; refine VCx.call (s3 _) rfl ?_; simp (maxSteps := 3000000) (disch := omega) only [go_sem, ↓reduceIte, reduceCtorEq, pappend, plen]; refine VCx.call (s4 _) rfl ?_; simp (maxSteps := 3000000) (disch := omega) only [go_sem, ↓reduceIte, reduceCtorEq, pappend, plen]; refine hK _ _ ?_; clear hK K
  (repeat refine PW.seq ?_)
  refine PW.rgv (P := Tryz.prog) [13] 58 (.bool (decide (a % 2 = 1) && decide (b % 2 = 1))) ?_ ?_ ?_
  · rfl
  · simp (maxSteps := 3000000) (disch := omega) only [go_sem, ↓reduceIte, reduceCtorEq, pappend, plen]; (repeat' ((first | refine VO_cond ?_ ?_ | refine VOd_cond ?_ ?_ | refine VOg_cond ?_ ?_ | refine VOh_cond ?_ ?_ | refine VOi_cond ?_ ?_ | refine And.intro ?_ ?_) <;> intro h <;> (try simp only [Bool.not_eq_true', Bool.not_eq_false', decide_eq_true_eq, decide_eq_false_iff_not] at h) <;> simp (maxSteps := 3000000) (disch := omega) only [go_sem, ↓reduceIte, reduceCtorEq, pappend, plen, h]))
    all_goals (clear s1 s2 s3 s4 hx hy hpx a1 a2; (simp_all [slot, Nat.beq] <;> first | rfl | omega | (rw [Bool.eq_iff_iff]; simp; done) | (rw [Bool.eq_iff_iff]; simp; omega)))
  (repeat refine PW.seq ?_); refine PW.cond (t := _) rfl (fun h => ?_) (fun h => ?_)
  · (repeat refine PW.seq ?_); refine PW.rg rfl fun K hK => ?_; simp (maxSteps := 3000000) (disch := omega) only [go_sem, ↓reduceIte, reduceCtorEq, pappend, plen, pshr2_v]; refine hK _ _ ?_; clear hK K
    (refine PW.ret ⟨_, rfl, ?_⟩; first | refine .inl ⟨?_, rfl⟩ | refine Fin.base (.id' ?_ (.bool _)) | refine Fin.base (.id' ?_ (.int _ _)))
    rfl
  · have hd : a % 2 = 0 ∨ b % 2 = 0 := by
      have h' : (decide (a % 2 = 1) && decide (b % 2 = 1)) = false := h
      simp only [Bool.and_eq_false_iff, decide_eq_false_iff_not] at h'
      omega
    have td : (S1 + S2 + S3 + S4).tdiv 2 = (S1 + S2 + S3 + S4) / 2 := tdiv_pos _ _ (by omega)
    have ev : ((S1 + S2 + S3 + S4) / 2 + 1) / 2 = (S1 + S2 + S3 + S4 + 2) / 4 := by
      rcases hd with h0 | h0
      · have := hx h0; omega
      · have := hy h0; omega
    refine PW.skip ?_
    (repeat refine PW.seq ?_); refine PW.rg rfl fun K hK => ?_; simp (maxSteps := 3000000) (disch := omega) only [go_sem, ↓reduceIte, reduceCtorEq, pappend, plen, td, pshr1_v, ev]; refine hK _ _ ?_; clear hK K
    (refine PW.ret ⟨_, rfl, ?_⟩; first | refine .inl ⟨?_, rfl⟩ | refine Fin.base (.id' ?_ (.bool _)) | refine Fin.base (.id' ?_ (.int _ _)))
    rfl

set_option maxHeartbeats 3200000 in
theorem comp_ref (p : List UInt8) (W R w hg : Nat) (x y vx vy : Int) (f : Bool) (H : Heap) (hp : p.length = W * R) (hW : 1 ≤ W ∧ W ≤ 64) (hR : 1 ≤ R ∧ R ≤ 64) (hw : 1 ≤ w ∧ w ≤ 16) (hgb : hg ≤ 16) (hx : 0 ≤ x ∧ x ≤ 64 ∧ 0 ≤ y ∧ y ≤ 64) (hv : -63 ≤ vx ∧ vx ≤ 63 ∧ -63 ≤ vy ∧ vy ≤ 63) :
    CallOk Tryz.prog 174 [.slice (bs p) p.length f, .int .i64 (W : Int), .int .i64 x, .int .i64 y, .int .i64 (w : Int), .int .i64 (hg : Int), .int .i64 vx, .int .i64 vy] H (.slice (bs (prd p W R x y w hg vx vy)) (w * hg) false) H := by
  have hbig : hg * w ≤ 16 * 16 := Nat.mul_le_mul hgb hw.2
  refine CallOk.body (F0 := [(0, .slice (bs p) p.length f), (1, .int .i64 (W : Int)), (2, .int .i64 x), (3, .int .i64 y), (4, .int .i64 (w : Int)), (5, .int .i64 (hg : Int)), (6, .int .i64 vx), (7, .int .i64 vy)]) Tryz.func174 rfl Tryz.ntmps174 Tryz.results174 rfl (by kernel_rfl) rfl ?_
  (repeat refine PW.seq ?_); refine PW.rg rfl fun K hK => ?_; simp (maxSteps := 3000000) (disch := omega) only [go_sem, ↓reduceIte, reduceCtorEq, pappend, plen]; refine hK _ _ ?_; clear hK K
  (repeat refine PW.seq ?_); refine PW.rg rfl fun K hK => ?_; simp (maxSteps := 3000000) (disch := omega) only [go_sem, ↓reduceIte, reduceCtorEq, pappend, plen]; refine hK _ _ ?_; clear hK K
  (repeat refine PW.seq ?_); refine PW.rg rfl fun K hK => ?_; simp (maxSteps := 3000000) (disch := omega) only [go_sem, ↓reduceIte, reduceCtorEq, pappend, plen]; refine hK _ _ ?_; clear hK K
  (repeat refine PW.seq ?_)
  refine PW.view (Vs.ghost 17 5 1 rfl) ?_
  (repeat refine PW.seq ?_); refine PW.block (PW.loop ?_)
  suffices h1 : ∀ j : Nat, j ≤ hg → PL Tryz.prog _ _ [(0, .slice (bs p) p.length f), (1, .int .i64 (W : Int)), (2, .int .i64 x), (3, .int .i64 y), (4, .int .i64 (w : Int)), (5, .int .i64 (hg : Int)), (6, .int .i64 vx), (7, .int .i64 vy), (17, .msl H.length (j * w) 0 (j * w) 1 true), (18, .int .i64 (j : Int))] (H ++ [⟨5, j * w, bs (prk p W R x y w vx vy (j * w))⟩]) _ by
    exact PL.at [0, 1, 2, 3, 4, 5, 6, 7, 17, 18] (h1 0 (by omega)) (by rw [Nat.zero_mul]; rfl) (by rw [Nat.zero_mul]; rfl)
  refine cnt hg (fun j hj ih => ?_) ?_
  · have ct := lt_t hj
    refine PL.round ?_; (repeat refine PW.seq ?_); refine PW.rg rfl fun K hK => ?_; simp (maxSteps := 3000000) (disch := omega) only [go_sem, ↓reduceIte, reduceCtorEq, pappend, plen, ct]; refine hK _ _ ?_; clear hK K; (repeat refine PW.seq ?_); refine PW.cond (t := _) rfl (fun h => ?_) (fun h => ?_)
    rotate_left
    · cases h
    refine PW.skip ?_; (repeat refine PW.seq ?_); refine PW.block ?_
    (repeat refine PW.seq ?_); refine PW.rg rfl fun K hK => ?_; simp (maxSteps := 3000000) (disch := omega) only [go_sem, ↓reduceIte, reduceCtorEq, pappend, plen]; refine hK _ _ ?_; clear hK K
    (repeat refine PW.seq ?_); refine PW.block (PW.loop ?_)
    suffices h2 : ∀ i : Nat, i ≤ w → PL Tryz.prog _ _ [(0, .slice (bs p) p.length f), (1, .int .i64 (W : Int)), (2, .int .i64 x), (3, .int .i64 y), (4, .int .i64 (w : Int)), (5, .int .i64 (hg : Int)), (6, .int .i64 vx), (7, .int .i64 vy), (17, .msl H.length (j * w + i) 0 (j * w + i) 1 true), (18, .int .i64 (j : Int)), (19, .int .i64 (i : Int))] (H ++ [⟨5, j * w + i, bs (prk p W R x y w vx vy (j * w + i))⟩]) _ by
      exact PL.at [0, 1, 2, 3, 4, 5, 6, 7, 17, 18, 19] (h2 0 (by omega)) rfl rfl
    refine cnt w (fun i hi ih2 => ?_) ?_
    · have ct := lt_t hi
      refine PL.round ?_; (repeat refine PW.seq ?_); refine PW.rg rfl fun K hK => ?_; simp (maxSteps := 3000000) (disch := omega) only [go_sem, ↓reduceIte, reduceCtorEq, pappend, plen, ct]; refine hK _ _ ?_; clear hK K; (repeat refine PW.seq ?_); refine PW.cond (t := _) rfl (fun h => ?_) (fun h => ?_)
      rotate_left
      · cases h
      have b2 : (j + 1) * w ≤ hg * w := Nat.mul_le_mul_right _ (by omega)
      rw [Nat.add_mul, Nat.one_mul] at b2
      have pl := prk_len p W R x y w vx vy (j * w + i)
      have hf := fun L => halfR_ref p W R (2 * (x + (i : Int)) + vx) (2 * (y + (j : Int)) + vy) f L hp hW hR (by omega)
      rw [pxl_shift] at hf
      rw [prk_snoc _ _ _ _ _ _ _ _ _ _ hi] at ih2
      have lp : (bs (prk p W R x y w vx vy (j * w + i)) ++ [PV.int .u8 (pxl p W R (x + (i : Int)) (y + (j : Int)) vx vy)]).length = j * w + (i + 1) := by simp [length_bs, pl]; omega
      refine PW.skip ?_; (repeat refine PW.seq ?_); refine PW.block ?_
      (repeat refine PW.seq ?_); refine PW.rg rfl fun K hK => ?_; simp (maxSteps := 3000000) (disch := omega) only [go_sem, ↓reduceIte, reduceCtorEq, pappend, plen, length_bs, pl]; refine VCx.call (hf _) rfl ?_; simp (maxSteps := 3000000) (disch := omega) only [go_sem, ↓reduceIte, reduceCtorEq, pappend, plen, length_bs, pl]; refine hK _ _ ?_; clear hK K
      (repeat refine PW.seq ?_); refine PW.rg rfl fun K hK => ?_; simp (maxSteps := 3000000) (disch := omega) only [go_sem, ↓reduceIte, reduceCtorEq, pappend, plen]; refine hK _ _ ?_; clear hK K
      exact PL.at [0, 1, 2, 3, 4, 5, 6, 7, 17, 18, 19] ih2 (by rw [lp]; rfl) (by rw [lp])
    · refine PL.round ?_; (repeat refine PW.seq ?_); refine PW.rg rfl fun K hK => ?_; simp (maxSteps := 3000000) (disch := omega) only [go_sem, ↓reduceIte, reduceCtorEq, pappend, plen, lt_f w]; refine hK _ _ ?_; clear hK K; (repeat refine PW.seq ?_); refine PW.cond (t := _) rfl (fun h => ?_) (fun h => ?_)
      · cases h
      refine PW.exit ?_
      (repeat refine PW.seq ?_); refine PW.rg rfl fun K hK => ?_; simp (maxSteps := 3000000) (disch := omega) only [go_sem, ↓reduceIte, reduceCtorEq, pappend, plen]; refine hK _ _ ?_; clear hK K
      exact PL.at [0, 1, 2, 3, 4, 5, 6, 7, 17, 18] ih (by rw [Nat.add_mul, Nat.one_mul]; rfl) (by rw [Nat.add_mul, Nat.one_mul])
  refine PL.round ?_; (repeat refine PW.seq ?_); refine PW.rg rfl fun K hK => ?_; simp (maxSteps := 3000000) (disch := omega) only [go_sem, ↓reduceIte, reduceCtorEq, pappend, plen, lt_f hg]; refine hK _ _ ?_; clear hK K; (repeat refine PW.seq ?_); refine PW.cond (t := _) rfl (fun h => ?_) (fun h => ?_)
  · cases h
  refine PW.exit ?_
  have pl := prk_len p W R x y w vx vy (hg * w)
  (repeat refine PW.seq ?_); refine PW.rg rfl fun K hK => ?_; simp (maxSteps := 3000000) (disch := omega) only [go_sem, ↓reduceIte, reduceCtorEq, pappend, plen]; refine hK _ _ ?_; clear hK K
  rw [← prk_end, Nat.mul_comm w hg]
  refine PW.ret ⟨_, rfl, ?_⟩
  exact Fin.base (Fz.mslC (e := 5) (xs := bs (prk p W R x y w vx vy (hg * w))) (by omega) (hp0 _ _ _) (by rw [length_bs, pl]; omega) (FzC.refl (bs_scoped _ _)))

set_option maxHeartbeats 1600000 in
theorem mean_ref (a b : List UInt8) (f g : Bool) (H : Heap) (hl : a.length = b.length) (ha : a.length ≤ 8192) : CallOk Tryz.prog 92 [.slice (bs a) a.length f, .slice (bs b) b.length g] H (.slice (bs (mnb a b)) a.length false) H := by
  have ee : mnb a b = rgB a.length (fun i => (byt a i + byt b i + 1) / 2) := rfl
  have sn : ∀ k, bs (rgB (k + 1) (fun i => (byt a i + byt b i + 1) / 2)) = bs (rgB k (fun i => (byt a i + byt b i + 1) / 2)) ++ [.int .u8 ((byt a k + byt b k + 1) / 2)] := fun k => by
    have r1 := byt_range a k
    have r2 := byt_range b k
    rw [rgB_snoc, bs_append, bs_one, u8_val (by omega)]
  have ln : ∀ k, (rgB k (fun i => (byt a i + byt b i + 1) / 2)).length = k := fun k => rgB_len _ _
  rw [ee]
  refine CallOk.body (F0 := [(0, .slice (bs a) a.length f), (1, .slice (bs b) b.length g)]) Tryz.func92 rfl Tryz.ntmps92 Tryz.results92 rfl (by kernel_rfl) rfl ?_
  (repeat refine PW.seq ?_); refine PW.rg rfl fun K hK => ?_; simp (maxSteps := 3000000) (disch := omega) only [go_sem, ↓reduceIte, reduceCtorEq, pappend, plen]; refine hK _ _ ?_; clear hK K
  (repeat refine PW.seq ?_); refine PW.rg rfl fun K hK => ?_; simp (maxSteps := 3000000) (disch := omega) only [go_sem, ↓reduceIte, reduceCtorEq, pappend, plen]; refine hK _ _ ?_; clear hK K
  (repeat refine PW.seq ?_); refine PW.rg rfl fun K hK => ?_; simp (maxSteps := 3000000) (disch := omega) only [go_sem, ↓reduceIte, reduceCtorEq, pappend, plen]; refine hK _ _ ?_; clear hK K
  (repeat refine PW.seq ?_)
  refine PW.view (Vs.ghost 5 5 1 rfl) ?_
  (repeat refine PW.seq ?_); refine PW.block (PW.loop ?_)
  suffices h1 : ∀ k : Nat, k ≤ a.length → PL Tryz.prog _ _ [(0, .slice (bs a) a.length f), (1, .slice (bs b) b.length g), (5, .msl H.length k 0 k 1 true), (6, .int .i64 (k : Int))] (H ++ [⟨5, k, bs (rgB k (fun i => (byt a i + byt b i + 1) / 2))⟩]) _ by
    exact PL.at [0, 1, 5, 6] (h1 0 (by omega)) rfl rfl
  refine cnt a.length (fun k hk ih => ?_) ?_
  · have ct := lt_t hk
    have r1 := byt_range a k
    have r2 := byt_range b k
    rw [sn] at ih
    have lk := ln k
    have lp : (bs (rgB k (fun i => (byt a i + byt b i + 1) / 2)) ++ [PV.int .u8 ((byt a k + byt b k + 1) / 2)]).length = k + 1 := by simp [length_bs, lk]
    generalize bs (rgB k (fun i => (byt a i + byt b i + 1) / 2)) = Q at *
    have lQ : Q.length = k := by simp at lp; omega
    refine PL.round ?_; (repeat refine PW.seq ?_); refine PW.rg rfl fun K hK => ?_; simp (maxSteps := 3000000) (disch := omega) only [go_sem, ↓reduceIte, reduceCtorEq, pappend, plen, ct]; refine hK _ _ ?_; clear hK K; (repeat refine PW.seq ?_); refine PW.cond (t := _) rfl (fun h => ?_) (fun h => ?_)
    rotate_left
    · cases h
    refine PW.skip ?_; (repeat refine PW.seq ?_); refine PW.block ?_
    (repeat refine PW.seq ?_); refine PW.drawi [H.length] [(5, [0]), (13, [0]), (29, [0])] [] [] mix (by kernel_rfl) (by simp <;> omega) fun K hK => ?_
    simp (maxSteps := 3000000) (disch := omega) only [go_sem, ↓reduceIte, reduceCtorEq, pappend, plen, arith, bs_get, length_bs, pshr1_v, lQ]
    refine hK _ _ ?_; clear hK K
    (repeat refine PW.seq ?_); refine PW.rg rfl fun K hK => ?_; simp (maxSteps := 3000000) (disch := omega) only [go_sem, ↓reduceIte, reduceCtorEq, pappend, plen]; refine hK _ _ ?_; clear hK K
    exact PL.at [0, 1, 5, 6] ih (by rw [lp]; rfl) (by rw [lp])
  refine PL.round ?_; (repeat refine PW.seq ?_); refine PW.rg rfl fun K hK => ?_; simp (maxSteps := 3000000) (disch := omega) only [go_sem, ↓reduceIte, reduceCtorEq, pappend, plen, lt_f a.length]; refine hK _ _ ?_; clear hK K; (repeat refine PW.seq ?_); refine PW.cond (t := _) rfl (fun h => ?_) (fun h => ?_)
  · cases h
  refine PW.exit ?_
  (repeat refine PW.seq ?_); refine PW.rg rfl fun K hK => ?_; simp (maxSteps := 3000000) (disch := omega) only [go_sem, ↓reduceIte, reduceCtorEq, pappend, plen]; refine hK _ _ ?_; clear hK K
  refine PW.ret ⟨_, rfl, ?_⟩
  exact Fin.base (Fz.mslC (e := 5) (xs := bs (rgB a.length (fun i => (byt a i + byt b i + 1) / 2))) (by omega) (hp0 _ _ _) (by rw [length_bs, ln]; omega) (FzC.refl (bs_scoped _ _)))

set_option maxHeartbeats 1600000 in
theorem average_ref (a b : Fm) (ha : F16 a) (hb : F16 b) (H : Heap) : CallOk Tryz.prog 37 [.agg (fmc a), .agg (fmc b)] H (.tup [.agg (fmc (mnF a b)), .int .i64 0]) H := by
  have fa := fun K => formed_ref a K
  have fb := fun K => formed_ref b K
  have va := ha.fvd
  have vb := hb.fvd
  unfold fvd at va vb
  rw [Bool.and_eq_true] at va vb
  rw [va.1] at fa
  rw [vb.1] at fb
  rw [mnF_c ha]
  obtain ⟨w, ht, y, u, v⟩ := a
  obtain ⟨w', ht', y', u', v'⟩ := b
  obtain ⟨hw, hh, l1, l2, l3⟩ := ha
  obtain ⟨hw', hh', l1', l2', l3'⟩ := hb
  simp only at hw hh l1 l2 l3 hw' hh' l1' l2' l3'
  subst hw hh hw' hh'
  have m1 := fun K => mean_ref y y' false false K (by omega) (by omega)
  have m2 := fun K => mean_ref u u' false false K (by omega) (by omega)
  have m3 := fun K => mean_ref v v' false false K (by omega) (by omega)
  simp only [fmc, l1, l2, l3, l1', l2', l3'] at fa fb m1 m2 m3 ⊢
  refine CallOk.body (F0 := [(0, .agg [.int .i64 16, .int .i64 16, .slice (bs y) 256 false, .slice (bs u) 64 false, .slice (bs v) 64 false]), (1, .agg [.int .i64 16, .int .i64 16, .slice (bs y') 256 false, .slice (bs u') 64 false, .slice (bs v') 64 false])]) Tryz.func37 rfl Tryz.ntmps37 Tryz.results37 rfl (by kernel_rfl) rfl ?_
  (repeat refine PW.seq ?_); refine PW.rg rfl fun K hK => ?_; simp (maxSteps := 3000000) (disch := omega) only [go_sem, ↓reduceIte, reduceCtorEq, pappend, plen]; refine hK _ _ ?_; clear hK K
  (repeat refine PW.seq ?_)
  refine PW.rgv (P := Tryz.prog) [2, 3, 4] 27 (.bool false) ?_ ?_ ?_
  · rfl
  · simp (maxSteps := 3000000) (disch := omega) only [go_sem, ↓reduceIte, reduceCtorEq, pappend, plen]; (repeat' (first | ((first | refine VO_cond ?_ ?_ | refine VOd_cond ?_ ?_ | refine VOg_cond ?_ ?_ | refine VOh_cond ?_ ?_ | refine VOi_cond ?_ ?_ | refine And.intro ?_ ?_) <;> intro h <;> (try simp only [Bool.not_eq_true', Bool.not_eq_false', decide_eq_true_eq, decide_eq_false_iff_not] at h) <;> simp (maxSteps := 3000000) (disch := omega) only [go_sem, ↓reduceIte, reduceCtorEq, pappend, plen, h]) | ((first | refine VCx.call (fa _) rfl ?_ | refine VCx.call (fb _) rfl ?_ | refine VCy.call (fa _) rfl ?_ | refine VCy.call (fb _) rfl ?_ | refine VCz.call (fun _ => fa _) rfl ?_ | refine VCz.call (fun _ => fb _) rfl ?_ | refine VCk.call (fun _ _ => fa _) rfl ?_ | refine VCk.call (fun _ _ => fb _) rfl ?_ | refine VCj.now (fa _) rfl ?_ | refine VCj.now (fb _) rfl ?_); simp (maxSteps := 3000000) (disch := omega) only [go_sem, ↓reduceIte, reduceCtorEq, pappend, plen])))
    all_goals (simp_all [slot, Nat.beq] <;> first | rfl | omega | (rw [Bool.eq_iff_iff]; simp; done) | (rw [Bool.eq_iff_iff]; simp; omega))
  (repeat refine PW.seq ?_); refine PW.cond (t := _) rfl (fun h => ?_) (fun h => ?_)
  · cases h
  refine PW.skip ?_
  (repeat refine PW.seq ?_); refine PW.draw mix (by kernel_rfl) fun K hK => ?_; simp (maxSteps := 3000000) (disch := omega) only [go_sem, ↓reduceIte, reduceCtorEq, pappend, plen]
  (repeat' (first | ((first | refine VO_cond ?_ ?_ | refine VOd_cond ?_ ?_ | refine VOg_cond ?_ ?_ | refine VOh_cond ?_ ?_ | refine VOi_cond ?_ ?_ | refine And.intro ?_ ?_) <;> intro h <;> (try simp only [Bool.not_eq_true', Bool.not_eq_false', decide_eq_true_eq, decide_eq_false_iff_not] at h) <;> simp (maxSteps := 3000000) (disch := omega) only [go_sem, ↓reduceIte, reduceCtorEq, pappend, plen, h]) | ((first | refine VCx.call (m1 _) rfl ?_ | refine VCx.call (m2 _) rfl ?_ | refine VCx.call (m3 _) rfl ?_ | refine VCy.call (m1 _) rfl ?_ | refine VCy.call (m2 _) rfl ?_ | refine VCy.call (m3 _) rfl ?_ | refine VCz.call (fun _ => m1 _) rfl ?_ | refine VCz.call (fun _ => m2 _) rfl ?_ | refine VCz.call (fun _ => m3 _) rfl ?_ | refine VCk.call (fun _ _ => m1 _) rfl ?_ | refine VCk.call (fun _ _ => m2 _) rfl ?_ | refine VCk.call (fun _ _ => m3 _) rfl ?_ | refine VCj.now (m1 _) rfl ?_ | refine VCj.now (m2 _) rfl ?_ | refine VCj.now (m3 _) rfl ?_); simp (maxSteps := 3000000) (disch := omega) only [go_sem, ↓reduceIte, reduceCtorEq, pappend, plen])))
  refine hK _ _ ?_; clear hK K
  refine PW.ret ⟨.tup [.agg [.int .i64 16, .int .i64 16, .slice (bs (mnb y y')) 256 false, .slice (bs (mnb u u')) 64 false, .slice (bs (mnb v v')) 64 false], .int .i64 0], by simp (maxSteps := 3000000) (disch := omega) only [go_sem, ↓reduceIte, reduceCtorEq, pappend, plen, presults, presult, List.mapM_cons, List.mapM_nil, Option.pure_def, Option.bind_eq_bind, Option.bind_some, Array.toList], ?_⟩
  exact Fin.base (.id (fe_scoped _ _ _ _ _ _ _ _ _ _))


set_option maxHeartbeats 1600000 in
theorem woven_ref (a b : List UInt8) (w m : Nat) (f g : Bool) (H : Heap) (ha : a.length = m * w) (hb : b.length = m * w) (hw : 1 ≤ w ∧ w ≤ 64) (hm : m ≤ 64) : CallOk Tryz.prog 236 [.slice (bs a) a.length f, .slice (bs b) b.length g, .int .i64 (w : Int)] H (.slice (bs (wov a b w m)) (m * (2 * w)) false) H := by
  have hbig : m * w ≤ 64 * 64 := Nat.mul_le_mul hm hw.2
  refine CallOk.body (F0 := [(0, .slice (bs a) a.length f), (1, .slice (bs b) b.length g), (2, .int .i64 (w : Int))]) Tryz.func236 rfl Tryz.ntmps236 Tryz.results236 rfl (by kernel_rfl) rfl ?_
  (repeat refine PW.seq ?_); refine PW.rg rfl fun K hK => ?_; simp (maxSteps := 3000000) (disch := omega) only [go_sem, ↓reduceIte, reduceCtorEq, pappend, plen]; refine hK _ _ ?_; clear hK K
  (repeat refine PW.seq ?_); refine PW.rg rfl fun K hK => ?_; simp (maxSteps := 3000000) (disch := omega) only [go_sem, ↓reduceIte, reduceCtorEq, pappend, plen]; refine hK _ _ ?_; clear hK K
  (repeat refine PW.seq ?_); refine PW.rg rfl fun K hK => ?_; simp (maxSteps := 3000000) (disch := omega) only [go_sem, ↓reduceIte, reduceCtorEq, pappend, plen]; refine hK _ _ ?_; clear hK K
  (repeat refine PW.seq ?_)
  refine PW.view (Vs.ghost 7 5 1 rfl) ?_
  (repeat refine PW.seq ?_); refine PW.block (PW.loop ?_)
  suffices h1 : ∀ k : Nat, k ≤ m → PL Tryz.prog _ _ [(0, .slice (bs a) a.length f), (1, .slice (bs b) b.length g), (2, .int .i64 (w : Int)), (7, .msl H.length (k * (2 * w)) 0 (k * (2 * w)) 1 true), (8, .int .i64 ((k * w : Nat) : Int))] (H ++ [⟨5, k * (2 * w), bs (wov a b w k)⟩]) _ by
    exact PL.at [0, 1, 2, 7, 8] (h1 0 (by omega)) (by rw [Nat.zero_mul, Nat.zero_mul]; rfl) (by rw [Nat.zero_mul]; rfl)
  refine cnt m (fun k hk ih => ?_) ?_
  · have b1 : (k + 1) * w ≤ m * w := Nat.mul_le_mul_right _ (by omega)
    have b2 : (k + 1) * w = k * w + w := by rw [Nat.add_mul, Nat.one_mul]
    have ct : decide (((k * w : Nat) : Int) < ((a.length : Nat) : Int)) = true := decide_eq_true (by omega)
    have e1 : ((k * w : Nat) : Int) + (w : Int) = ((k * w + w : Nat) : Int) := by omega
    have e3 : k * w + w - k * w = w := by omega
    have ra := row_len ha hk
    have rb := row_len hb hk
    have wl := wov_len ha hb k (by omega)
    have wb : k * (2 * w) ≤ 8192 := by
      have : k * (2 * w) ≤ m * (2 * w) := Nat.mul_le_mul_right _ (by omega)
      have h3 : m * (2 * w) ≤ 64 * 128 := Nat.mul_le_mul hm (by omega)
      omega
    rw [wov_snoc, bs_append, bs_append] at ih
    have l1 : (bs (wov a b w k)).length = k * (2 * w) := by rw [length_bs, wl]
    have l2 : (bs ((a.drop (k * w)).take w)).length = w := by rw [length_bs, ra]
    have l3 : (bs ((b.drop (k * w)).take w)).length = w := by rw [length_bs, rb]
    have lp : (k + 1) * (2 * w) = k * (2 * w) + w + w := by rw [Nat.add_mul]; omega
    have l4 : (bs (wov a b w k) ++ bs ((a.drop (k * w)).take w)).length = k * (2 * w) + w := by rw [List.length_append, l1, l2]
    have l5 : (bs (wov a b w k) ++ (bs ((a.drop (k * w)).take w) ++ bs ((b.drop (k * w)).take w))).length = k * (2 * w) + w + w := by rw [List.length_append, List.length_append, l1, l2, l3]; omega
    refine PL.round ?_; (repeat refine PW.seq ?_); refine PW.rg rfl fun K hK => ?_; simp (maxSteps := 3000000) (disch := omega) only [go_sem, ↓reduceIte, reduceCtorEq, pappend, plen, ct]; refine hK _ _ ?_; clear hK K; (repeat refine PW.seq ?_); refine PW.cond (t := _) rfl (fun h => ?_) (fun h => ?_)
    rotate_left
    · cases h
    refine PW.skip ?_; (repeat refine PW.seq ?_); refine PW.block ?_
    rw [lp, b2] at ih
    (repeat refine PW.seq ?_); refine PW.drawi [H.length] [(7, [0]), (16, [0]), (23, [0]), (30, [0])] [] [] mix (by kernel_rfl) (by simp <;> omega) fun K hK => ?_
    simp (maxSteps := 3000000) (disch := omega) only [go_sem, ↓reduceIte, reduceCtorEq, pappend, plen, arith, e1, e3, length_bs, bs_drop, bs_take, l1, l2, l3, ra, rb, wl, l4, l5, Option.toArray_some, Option.toArray_none]
    refine hK _ _ ?_; clear hK K
    (repeat refine PW.seq ?_); refine PW.rg rfl fun K hK => ?_; simp (maxSteps := 3000000) (disch := omega) only [go_sem, ↓reduceIte, reduceCtorEq, pappend, plen, e1]; refine hK _ _ ?_; clear hK K
    exact PL.at [0, 1, 2, 7, 8] ih rfl rfl
  have cf : decide (((m * w : Nat) : Int) < ((a.length : Nat) : Int)) = false := decide_eq_false (by omega)
  refine PL.round ?_; (repeat refine PW.seq ?_); refine PW.rg rfl fun K hK => ?_; simp (maxSteps := 3000000) (disch := omega) only [go_sem, ↓reduceIte, reduceCtorEq, pappend, plen, cf]; refine hK _ _ ?_; clear hK K; (repeat refine PW.seq ?_); refine PW.cond (t := _) rfl (fun h => ?_) (fun h => ?_)
  · cases h
  refine PW.exit ?_
  (repeat refine PW.seq ?_); refine PW.rg rfl fun K hK => ?_; simp (maxSteps := 3000000) (disch := omega) only [go_sem, ↓reduceIte, reduceCtorEq, pappend, plen]; refine hK _ _ ?_; clear hK K
  refine PW.ret ⟨_, rfl, ?_⟩
  exact Fin.base (Fz.mslC (e := 5) (xs := bs (wov a b w m)) (by omega) (hp0 _ _ _) (by rw [length_bs, wov_len ha hb m (Nat.le_refl _)]; omega) (FzC.refl (bs_scoped _ _)))

end Go.Proofs.YtahomnplappbpaaGreatDoor.Sc
