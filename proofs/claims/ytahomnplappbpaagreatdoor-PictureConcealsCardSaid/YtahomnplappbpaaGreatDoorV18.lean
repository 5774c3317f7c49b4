/-
  Parts of the proof, put together in one text. No condition.
-/
import Derived.Test.YtahomnplappbpaaGreatDoorV16
namespace Go.Proofs.YtahomnplappbpaaGreatDoor.Sc
set_option linter.all false
set_option linter.unusedVariables false
set_option linter.unusedSimpArgs false
open Pm Ty Go.RowKit

/-- A frame. -/
structure Fm where
  w : Int
  h : Int
  y : List UInt8
  u : List UInt8
  v : List UInt8
def fmc (f : Fm) : List PV := [.int .i64 f.w, .int .i64 f.h, .slice (bs f.y) f.y.length false, .slice (bs f.u) f.u.length false, .slice (bs f.v) f.v.length false]
def fsz (w h : Int) : Bool := decide (2 ≤ w) && (decide (w ≤ 64) && (decide (w % 2 = 0) && (decide (2 ≤ h) && (decide (h ≤ 64) && decide (h % 2 = 0)))))
def fmd (f : Fm) : Bool := fsz f.w f.h && (decide ((f.y.length : Int) = f.w * f.h) && (decide ((f.u.length : Int) = f.w / 2 * (f.h / 2)) && decide ((f.v.length : Int) = f.w / 2 * (f.h / 2))))
def fvd (f : Fm) : Bool := fmd f && (decide (f.w % 16 = 0) && decide (f.h % 16 = 0))
theorem fsz_of {w h : Int} (e : fsz w h = true) : 2 ≤ w ∧ w ≤ 64 ∧ w % 2 = 0 ∧ 2 ≤ h ∧ h ≤ 64 ∧ h % 2 = 0 := by simpa [fsz] using e
theorem mul_b {a b : Int} (h : 0 ≤ a ∧ a ≤ 64 ∧ 0 ≤ b ∧ b ≤ 64) : 0 ≤ a * b ∧ a * b ≤ 4096 := by
  refine ⟨Int.mul_nonneg (by omega) (by omega), ?_⟩
  calc a * b ≤ 64 * 64 := Int.mul_le_mul (by omega) (by omega) (by omega) (by omega)
    _ = 4096 := by decide

theorem fsz_ok (w ht : Int) (H : Heap) : CallOk Tryz.prog 154 [.int .i64 w, .int .i64 ht] H (.bool (fsz w ht)) H := by
  refine CallOk.body (F0 := [(0, .int .i64 w), (1, .int .i64 ht)]) Tryz.func154 rfl Tryz.ntmps154 Tryz.results154 rfl (by kernel_rfl) rfl ?_
  (repeat' (first | refine PW.seq ?_ | refine PW.skip ?_ | refine PW.block ?_ | (refine PW.rg rfl fun K hK => ?_; simp (disch := omega) only [go_sem, ↓reduceIte, reduceCtorEq, pappend, plen, tmod_pos]) | (refine PW.draw mix (by kernel_rfl) fun K hK => ?_; simp (disch := omega) only [go_sem, ↓reduceIte, reduceCtorEq, pappend, plen, tmod_pos]) | (refine PW.drawg mix (by kernel_rfl) fun K hK => ?_; simp (disch := omega) only [go_sem, ↓reduceIte, reduceCtorEq, pappend, plen, tmod_pos]) | (refine PW.drawt [] [] mix (by kernel_rfl) fun K hK => ?_; simp (disch := omega) only [go_sem, ↓reduceIte, reduceCtorEq, pappend, plen, tmod_pos]) | ((first | refine VO_cond ?_ ?_ | refine VOd_cond ?_ ?_ | refine VOg_cond ?_ ?_ | refine VOh_cond ?_ ?_ | refine VOi_cond ?_ ?_ | refine And.intro ?_ ?_) <;> intro h <;> (try simp only [Bool.not_eq_true', Bool.not_eq_false', decide_eq_true_eq, decide_eq_false_iff_not] at h) <;> simp (disch := omega) only [go_sem, ↓reduceIte, reduceCtorEq, pappend, plen, tmod_pos, h]) | (refine hK _ _ ?_; clear hK K) | (refine PW.cond (t := _) rfl (fun h => ?_) (fun h => ?_) <;> (try (cases h; done)) <;> (try simp only [Bool.not_eq_true', Bool.not_eq_false', decide_eq_true_eq, decide_eq_false_iff_not] at h))))
  all_goals ((refine PW.ret ⟨_, rfl, ?_⟩; first | refine .inl ⟨?_, rfl⟩ | refine Fin.base (.id' ?_ (.bool _)) | refine Fin.base (.id' ?_ (.int _ _))); (simp_all [fsz, slot, Nat.beq] <;> first | rfl | omega | (rw [Bool.eq_iff_iff]; simp; done) | (rw [Bool.eq_iff_iff]; simp; omega)))

theorem formed_ok (f : Fm) (H : Heap) : CallOk Tryz.prog 127 [.agg (fmc f)] H (.bool (fmd f)) H := by
  obtain ⟨w, ht, y, u, v⟩ := f
  refine CallOk.body (F0 := [(0, .agg [.int .i64 w, .int .i64 ht, .slice (bs y) y.length false, .slice (bs u) u.length false, .slice (bs v) v.length false])]) Tryz.func127 rfl Tryz.ntmps127 Tryz.results127 rfl (by kernel_rfl) rfl ?_
  (repeat refine PW.seq ?_); refine PW.rg rfl fun K hK => ?_; simp (disch := omega) only [go_sem, ↓reduceIte, reduceCtorEq, pappend, plen]; refine hK _ _ ?_; clear hK K
  cases hs : fsz w ht
  · have hc := fun H => fsz_ok w ht H
    simp only [hs] at hc
    (repeat refine PW.seq ?_); refine PW.rg rfl fun K hK => ?_; simp (disch := omega) only [go_sem, ↓reduceIte, reduceCtorEq, pappend, plen]; (repeat' (first | ((first | refine VO_cond ?_ ?_ | refine VOd_cond ?_ ?_ | refine VOg_cond ?_ ?_ | refine VOh_cond ?_ ?_ | refine VOi_cond ?_ ?_ | refine And.intro ?_ ?_) <;> intro h <;> (try simp only [Bool.not_eq_true', Bool.not_eq_false', decide_eq_true_eq, decide_eq_false_iff_not] at h) <;> simp (disch := omega) only [go_sem, ↓reduceIte, reduceCtorEq, pappend, plen, h]) | ((first | refine VCx.call (hc _) rfl ?_ | refine VCy.call (hc _) rfl ?_ | refine VCz.call (fun _ => hc _) rfl ?_ | refine VCk.call (fun _ _ => hc _) rfl ?_ | refine VCj.now (hc _) rfl ?_); simp (disch := omega) only [go_sem, ↓reduceIte, reduceCtorEq, pappend, plen])))
    all_goals (refine hK _ _ ?_; (refine PW.ret ⟨_, rfl, ?_⟩; first | refine .inl ⟨?_, rfl⟩ | refine Fin.base (.id' ?_ (.bool _)) | refine Fin.base (.id' ?_ (.int _ _))); simp [fmd, hs, slot, Nat.beq])
  · have hc := fun H => fsz_ok w ht H
    simp only [hs] at hc
    obtain ⟨g1, g2, g3, g4, g5, g6⟩ := fsz_of hs
    have m1 := mul_b (a := w) (b := ht) (by omega)
    have m2 := mul_b (a := w / 2) (b := ht / 2) (by omega)
    (repeat refine PW.seq ?_); refine PW.rg rfl fun K hK => ?_; simp (disch := omega) only [go_sem, ↓reduceIte, reduceCtorEq, pappend, plen]; (repeat' (first | ((first | refine VO_cond ?_ ?_ | refine VOd_cond ?_ ?_ | refine VOg_cond ?_ ?_ | refine VOh_cond ?_ ?_ | refine VOi_cond ?_ ?_ | refine And.intro ?_ ?_) <;> intro h <;> (try simp only [Bool.not_eq_true', Bool.not_eq_false', decide_eq_true_eq, decide_eq_false_iff_not] at h) <;> simp (disch := omega) only [go_sem, ↓reduceIte, reduceCtorEq, pappend, plen, tdiv_pos, h]) | ((first | refine VCx.call (hc _) rfl ?_ | refine VCy.call (hc _) rfl ?_ | refine VCz.call (fun _ => hc _) rfl ?_ | refine VCk.call (fun _ _ => hc _) rfl ?_ | refine VCj.now (hc _) rfl ?_); simp (disch := omega) only [go_sem, ↓reduceIte, reduceCtorEq, pappend, plen, tdiv_pos])))
    all_goals (refine hK _ _ ?_; clear hK hc; (refine PW.ret ⟨_, rfl, ?_⟩; first | refine .inl ⟨?_, rfl⟩ | refine Fin.base (.id' ?_ (.bool _)) | refine Fin.base (.id' ?_ (.int _ _))); (simp_all [fmd, slot, Nat.beq] <;> first | rfl | omega | (rw [Bool.eq_iff_iff]; simp; done) | (rw [Bool.eq_iff_iff]; simp; omega)))

theorem formed_ref (f : Fm) (H : Heap) : CallOk Tryz.prog 50 [.agg (fmc f)] H (.bool (fmd f)) H := by
  obtain ⟨w, ht, y, u, v⟩ := f
  refine CallOk.body (F0 := [(0, .agg [.int .i64 w, .int .i64 ht, .slice (bs y) y.length false, .slice (bs u) u.length false, .slice (bs v) v.length false])]) Tryz.func50 rfl Tryz.ntmps50 Tryz.results50 rfl (by kernel_rfl) rfl ?_
  (repeat refine PW.seq ?_); refine PW.rg rfl fun K hK => ?_; simp (disch := omega) only [go_sem, ↓reduceIte, reduceCtorEq, pappend, plen]; refine hK _ _ ?_; clear hK K
  (repeat refine PW.seq ?_)
  refine PW.rgv (P := Tryz.prog) [1] 32 (.bool (!(fsz w ht))) ?_ ?_ ?_
  · rfl
  · simp (disch := omega) only [go_sem, ↓reduceIte, reduceCtorEq, pappend, plen]; (repeat' ((first | refine VO_cond ?_ ?_ | refine VOd_cond ?_ ?_ | refine VOg_cond ?_ ?_ | refine VOh_cond ?_ ?_ | refine VOi_cond ?_ ?_ | refine And.intro ?_ ?_) <;> intro h <;> (try simp only [Bool.not_eq_true', Bool.not_eq_false', decide_eq_true_eq, decide_eq_false_iff_not] at h) <;> simp (disch := omega) only [go_sem, ↓reduceIte, reduceCtorEq, pappend, plen, tmod_pos, h]))
    all_goals (simp_all [fsz, slot, Nat.beq] <;> first | rfl | omega | (rw [Bool.eq_iff_iff]; simp; done) | (rw [Bool.eq_iff_iff]; simp; omega))
  (repeat refine PW.seq ?_); refine PW.cond (t := _) rfl (fun h => ?_) (fun h => ?_)
  · have hs : fsz w ht = false := by simpa using h
    (repeat refine PW.seq ?_); refine PW.rg rfl fun K hK => ?_; simp (disch := omega) only [go_sem, ↓reduceIte, reduceCtorEq, pappend, plen]; refine hK _ _ ?_; clear hK K
    (refine PW.ret ⟨_, rfl, ?_⟩; first | refine .inl ⟨?_, rfl⟩ | refine Fin.base (.id' ?_ (.bool _)) | refine Fin.base (.id' ?_ (.int _ _)))
    simp [fmd, hs, slot, Nat.beq]
  · have hs : fsz w ht = true := by simpa using h
    obtain ⟨g1, g2, g3, g4, g5, g6⟩ := fsz_of hs
    have m1 := mul_b (a := w) (b := ht) (by omega)
    have m2 := mul_b (a := w / 2) (b := ht / 2) (by omega)
    refine PW.skip ?_
    (repeat refine PW.seq ?_); refine PW.rg rfl fun K hK => ?_; simp (disch := omega) only [go_sem, ↓reduceIte, reduceCtorEq, pappend, plen, tdiv_pos]; (repeat' ((first | refine VO_cond ?_ ?_ | refine VOd_cond ?_ ?_ | refine VOg_cond ?_ ?_ | refine VOh_cond ?_ ?_ | refine VOi_cond ?_ ?_ | refine And.intro ?_ ?_) <;> intro h <;> (try simp only [Bool.not_eq_true', Bool.not_eq_false', decide_eq_true_eq, decide_eq_false_iff_not] at h) <;> simp (disch := omega) only [go_sem, ↓reduceIte, reduceCtorEq, pappend, plen, tdiv_pos, h]))
    all_goals (refine hK _ _ ?_; clear hK; (refine PW.ret ⟨_, rfl, ?_⟩; first | refine .inl ⟨?_, rfl⟩ | refine Fin.base (.id' ?_ (.bool _)) | refine Fin.base (.id' ?_ (.int _ _))); (simp_all [fmd, slot, Nat.beq] <;> first | rfl | omega | (rw [Bool.eq_iff_iff]; simp; done) | (rw [Bool.eq_iff_iff]; simp; omega)))

end Go.Proofs.YtahomnplappbpaaGreatDoor.Sc

namespace Go.Proofs.YtahomnplappbpaaGreatDoor.Sc
set_option linter.all false
set_option linter.unusedVariables false
set_option linter.unusedSimpArgs false
open Pm Ty Go.RowKit

/-- r rows of w samples, s apart, from a on. -/
def ctl (p : List UInt8) (a s w : Nat) (r : Nat) : List UInt8 := ((List.range r).map fun k => (p.drop (a + k * s)).take w).flatten
theorem ctl_snoc (p : List UInt8) (a s w r : Nat) : ctl p a s w (r + 1) = ctl p a s w r ++ (p.drop (a + r * s)).take w := by simp [ctl, List.range_succ]
theorem ctl_len (p : List UInt8) (a s w : Nat) : ∀ r, (∀ k, k < r → a + k * s + w ≤ p.length) → (ctl p a s w r).length = r * w
  | 0, _ => by simp [ctl]
  | r + 1, h => by
    have := h r (by omega)
    rw [ctl_snoc, List.length_append, ctl_len p a s w r (fun k hk => h k (by omega)), List.length_take, List.length_drop, Nat.succ_mul]
    omega

theorem lines_ref (p : List UInt8) (w c n : Nat) (f : Bool) (H : Heap) (hw : 1 ≤ w ∧ w ≤ 64) (hc : c ≤ 1) (hn : n ≤ 64) (hp : p.length = n * (2 * w)) :
    CallOk Tryz.prog 63 [.slice (bs p) p.length f, .int .i64 (w : Int), .int .i64 (c : Int)] H (.slice (bs (ctl p (c * w) (2 * w) w n)) (n * w) false) H := by
  have hcw : c * w ≤ w := by
    have : c = 0 ∨ c = 1 := by omega
    rcases this with rfl | rfl <;> simp
  have hfit : ∀ k, k < n → c * w + k * (2 * w) + w ≤ p.length := fun k hk => by
    have h1 : (k + 1) * (2 * w) ≤ n * (2 * w) := Nat.mul_le_mul_right _ (by omega)
    rw [Nat.succ_mul] at h1
    omega
  have hbig : n * (2 * w) ≤ 8192 := by
    have h1 : n * (2 * w) ≤ 64 * (2 * w) := Nat.mul_le_mul_right _ hn
    omega
  have e0 : (c : Int) * (w : Int) = ((c * w : Nat) : Int) := by simp
  have e2 : (2 : Int) * (w : Int) = ((2 * w : Nat) : Int) := by simp
  refine CallOk.body (F0 := [(0, .slice (bs p) p.length f), (1, .int .i64 (w : Int)), (2, .int .i64 (c : Int))]) Tryz.func63 rfl Tryz.ntmps63 Tryz.results63 rfl (by kernel_rfl) rfl ?_
  (repeat refine PW.seq ?_); refine PW.rg rfl fun K hK => ?_; simp (disch := omega) only [go_sem, ↓reduceIte, reduceCtorEq, pappend, plen]; refine hK _ _ ?_; clear hK K; (repeat refine PW.seq ?_); refine PW.rg rfl fun K hK => ?_; simp (disch := omega) only [go_sem, ↓reduceIte, reduceCtorEq, pappend, plen]; refine hK _ _ ?_; clear hK K
  (repeat refine PW.seq ?_); refine PW.rg rfl fun K hK => ?_; simp (disch := omega) only [go_sem, ↓reduceIte, reduceCtorEq, pappend, plen, e0]; refine hK _ _ ?_; clear hK K
  (repeat refine PW.seq ?_)
  refine PW.view (Vs.ghost 7 5 1 rfl) ?_
  refine PW.block (PW.loop ?_)
  suffices hloop : ∀ (r at' : Nat), r ≤ n → at' = c * w + r * (2 * w) → PL Tryz.prog _ _ [(0, .slice (bs p) p.length f), (1, .int .i64 (w : Int)), (7, .msl H.length (r * w) 0 (r * w) 1 true), (8, .int .i64 (at' : Int))] (H ++ [⟨5, r * w, bs (ctl p (c * w) (2 * w) w r)⟩]) _ by
    exact PL.at [0, 1, 7, 8] (hloop 0 (c * w) (Nat.zero_le _) (by simp)) (by simp [kp, slot, Nat.beq]) (by simp [ctl, bs])
  intro r at' hr hat
  induction hm : n - r using Nat.strongRecOn generalizing r at' with
  | _ m ih =>
    have hcl := ctl_len p (c * w) (2 * w) w r (fun k hk => hfit k (by omega))
    refine PL.round ?_; (repeat refine PW.seq ?_); refine PW.rg rfl fun K hK => ?_; simp (disch := omega) only [go_sem, ↓reduceIte, reduceCtorEq, pappend, plen]; refine hK _ _ ?_; clear hK K
    (repeat refine PW.seq ?_); refine PW.cond (t := _) rfl (fun h => ?_) (fun h => ?_)
    · have h4 : at' < p.length := by have := of_decide_eq_true h; omega
      have h5 : r < n := by
        rcases Nat.lt_or_ge r n with h6 | h6
        · exact h6
        · have : r = n := by omega
          subst this
          omega
      have h6 := hfit r h5
      have hnext := ih (n - (r + 1)) (by omega) (r + 1) (at' + 2 * w) (by omega) (by have := Nat.add_mul r 1 (2 * w); omega) rfl
      rw [ctl_snoc, bs_append] at hnext
      have e1 : (at' : Int) + (w : Int) = ((at' + w : Nat) : Int) := by omega
      have e3 : at' + w - at' = w := by omega
      have hrl : r * w ≤ 8192 := by
        have : r * w ≤ n * (2 * w) := Nat.mul_le_mul (by omega) (by omega)
        omega
      have htl : ((p.drop at').take w).length = w := by simp; omega
      refine PW.skip ?_; (repeat refine PW.seq ?_); refine PW.block ?_
      (repeat refine PW.seq ?_); refine PW.rg rfl fun K hK => ?_; simp (disch := omega) only [go_sem, ↓reduceIte, reduceCtorEq, pappend, plen, e1, e3, length_bs, hcl, bs_drop, bs_take, htl]; refine hK _ _ ?_; clear hK K
      (repeat refine PW.seq ?_); refine PW.rg rfl fun K hK => ?_; simp (disch := omega) only [go_sem, ↓reduceIte, reduceCtorEq, pappend, plen, e2]; refine hK _ _ ?_; clear hK K
      have hc1 : (bs (ctl p (c * w) (2 * w) w r) ++ bs ((p.drop at').take w)).length = (r + 1) * w := by rw [List.length_append, length_bs, length_bs, hcl, htl, Nat.add_mul]; omega
      have hlen : r * w + w = (r + 1) * w := by rw [Nat.add_mul]; omega
      rw [← hat] at hnext
      refine PL.at [0, 1, 7, 8] hnext ?_ ?_
      · simp (disch := omega) only [go_sem, ↓reduceIte, reduceCtorEq, pappend, plen]
        rw [hc1, hlen]
        rfl
      · rw [hc1]
    · have h4 : ¬ at' < p.length := by have := of_decide_eq_false h; omega
      have h5 : r = n := by
        rcases Nat.lt_or_ge r n with h6 | h6
        · have := hfit r h6; omega
        · omega
      subst h5
      refine PW.exit ?_
      (repeat refine PW.seq ?_); refine PW.rg rfl fun K hK => ?_; simp (disch := omega) only [go_sem, ↓reduceIte, reduceCtorEq, pappend, plen]; refine hK _ _ ?_; clear hK K
      refine PW.ret ⟨_, rfl, ?_⟩
      exact Fin.base (Fz.mslC (e := 5) (xs := bs (ctl p (c * w) (2 * w) w r)) (Nat.le_refl _) (by simp) (by rw [length_bs, hcl]; omega) (FzC.refl (bs_scoped _ _)))

theorem bs_zero (n : Nat) : reps n [PV.int .u8 0] = bs (List.replicate n 0) := by
  rw [bs_rep]
  induction n with
  | zero => rfl
  | succ n ih => rw [List.replicate_succ, ← ih]; simp [reps, List.replicate_succ]
theorem cut_ok (p : List UInt8) (a s w n : Nat) (f : Bool) (H : Heap) (hw : w ≤ 64) (hn : n ≤ 64) (hp : p.length ≤ 8192) (hfit : ∀ k, k < n → a + k * s + w ≤ p.length) (hs : s ≤ 200 ∧ a ≤ 200) :
    CallOk Tryz.prog 188 [.slice (bs p) p.length f, .agg [.int .i64 (a : Int), .int .i64 (s : Int), .int .i64 (w : Int), .int .i64 (n : Int)]] H (.slice (bs (ctl p a s w n)) (n * w) false) H := by
  have e0 : (w : Int) * (n : Int) = ((n * w : Nat) : Int) := by rw [Nat.mul_comm]; simp
  have hbig : n * w ≤ 4096 := Nat.mul_le_mul hn hw
  refine CallOk.body (F0 := [(0, .slice (bs p) p.length f), (1, .agg [.int .i64 (a : Int), .int .i64 (s : Int), .int .i64 (w : Int), .int .i64 (n : Int)])]) Tryz.func188 rfl Tryz.ntmps188 Tryz.results188 rfl (by kernel_rfl) rfl ?_
  (repeat refine PW.seq ?_); refine PW.rg rfl fun K hK => ?_; simp (disch := omega) only [go_sem, ↓reduceIte, reduceCtorEq, pappend, plen]; refine hK _ _ ?_; clear hK K
  (repeat refine PW.seq ?_); refine PW.rg rfl fun K hK => ?_; simp (disch := omega) only [go_sem, ↓reduceIte, reduceCtorEq, pappend, plen, e0]; refine hK _ _ ?_; clear hK K
  (repeat refine PW.seq ?_); refine PW.rg rfl fun K hK => ?_; simp (disch := omega) only [go_sem, ↓reduceIte, reduceCtorEq, pappend, plen]; refine hK _ _ ?_; clear hK K
  (repeat refine PW.seq ?_); refine PW.block (PW.loop ?_)
  suffices hloop : ∀ (r : Nat), r ≤ n → PL Tryz.prog _ _ [(0, .slice (bs p) p.length f), (3, .ptr H.length 0 0), (5, .msl (H.length + 1) 0 0 (n * w) 1 true), (14, .int .i64 (n : Int)), (15, .int .i64 (r : Int))] (H ++ [⟨214, 0, [.int .i64 (a : Int), .int .i64 (s : Int), .int .i64 (w : Int), .int .i64 (n : Int)]⟩, ⟨5, 0, bs (ctl p a s w r ++ List.replicate ((n - r) * w) 0)⟩]) _ by
    exact PL.at [0, 3, 5, 14, 15] (hloop 0 (Nat.zero_le _)) rfl (by rw [show ctl p a s w 0 = [] from rfl, List.nil_append, Nat.sub_zero, ← bs_zero]; rfl)
  intro r hr
  induction hm : n - r using Nat.strongRecOn generalizing r with
  | _ m ih =>
    have hcl := ctl_len p a s w r (fun k hk => hfit k (by omega))
    refine PL.round ?_; (repeat refine PW.seq ?_); refine PW.rg rfl fun K hK => ?_; simp (disch := omega) only [go_sem, ↓reduceIte, reduceCtorEq, pappend, plen]; refine hK _ _ ?_; clear hK K
    (repeat refine PW.seq ?_); refine PW.cond (t := _) rfl (fun h => ?_) (fun h => ?_)
    · have h4 : r < n := by have := of_decide_eq_true h; omega
      have hnext := ih (n - (r + 1)) (by omega) (r + 1) (by omega) rfl
      have h6 := hfit r h4
      have eR : (r : Int) * (w : Int) = ((r * w : Nat) : Int) := by simp
      have eR1 : ((r : Int) + 1) * (w : Int) = (((r + 1) * w : Nat) : Int) := by simp
      have eS : (r : Int) * (s : Int) = ((r * s : Nat) : Int) := by simp
      have eA : (a : Int) + ((r * s : Nat) : Int) = ((a + r * s : Nat) : Int) := by simp
      have b2 : (r + 1) * w ≤ n * w := Nat.mul_le_mul_right _ (by omega)
      have b1 : (r + 1) * w = r * w + w := by rw [Nat.add_mul]; omega
      have e3 : r * w + w - r * w = w := by omega
      have hbl : (ctl p a s w r ++ List.replicate (m * w) 0).length = n * w := by
        rw [List.length_append, hcl, List.length_replicate, ← Nat.add_mul, show r + m = n by omega]
      have htk : List.take (p.length - (a + r * s)) (List.drop (a + r * s) p) = List.drop (a + r * s) p := List.take_of_length_le (by simp)
      have hdl : (List.drop (a + r * s) p).length = p.length - (a + r * s) := List.length_drop
      have hmin : min (p.length - (a + r * s)) w = w := by omega
      have hzl : (List.take w (List.drop (a + r * s) p)).length = w := by simp; omega
      have htk1 : List.take (r * w) (ctl p a s w r ++ List.replicate (m * w) 0) = ctl p a s w r := by rw [← hcl]; exact List.take_left
      have htk2 : List.drop (r * w + w) (ctl p a s w r ++ List.replicate (m * w) 0) = List.replicate ((n - (r + 1)) * w) 0 := by
        rw [← hcl, List.drop_append, hcl, List.drop_of_length_le (by omega), List.nil_append, List.drop_replicate]
        congr 1
        have : m * w = (n - (r + 1)) * w + w := by rw [← Nat.succ_mul]; congr 1; omega
        omega
      refine PW.skip ?_; (repeat refine PW.seq ?_); refine PW.block ?_
      (repeat refine PW.seq ?_); refine PW.rg rfl fun K hK => ?_; simp (disch := omega) only [go_sem, ↓reduceIte, reduceCtorEq, pappend, plen]; refine hK _ _ ?_; clear hK K
      rw [b1] at eR1 b2
      (repeat refine PW.seq ?_); refine PW.draw mix (by kernel_rfl) fun K hK => ?_; simp (disch := omega) only [go_sem, ↓reduceIte, reduceCtorEq, pappend, plen, eR, eR1, eS, eA, e3, length_bs, hbl, bs_drop, bs_take, htk, hdl, hmin, hzl, htk1, htk2]; refine hK _ _ ?_; clear hK K
      (repeat refine PW.seq ?_); refine PW.rg rfl fun K hK => ?_; simp (disch := omega) only [go_sem, ↓reduceIte, reduceCtorEq, pappend, plen]; refine hK _ _ ?_; clear hK K
      rw [ctl_snoc, List.append_assoc, bs_append, bs_append] at hnext
      exact PL.at [0, 3, 5, 14, 15] hnext rfl rfl
    · have h4 : r = n := by have := of_decide_eq_false h; omega
      subst h4
      refine PW.exit ?_
      (repeat refine PW.seq ?_); refine PW.rg rfl fun K hK => ?_; simp (disch := omega) only [go_sem, ↓reduceIte, reduceCtorEq, pappend, plen]; refine hK _ _ ?_; clear hK K
      refine PW.ret ⟨_, rfl, ?_⟩
      rw [show r - r = 0 from Nat.sub_self r] at hm
      subst hm
      rw [Nat.zero_mul, List.replicate_zero, List.append_nil]
      exact Fin.base (Fz.mslC (e := 5) (xs := bs (ctl p a s w r)) (by omega) (hp1 _ _ _ _) (by rw [length_bs, hcl]; omega) (FzC.refl (bs_scoped _ _)))

end Go.Proofs.YtahomnplappbpaaGreatDoor.Sc

namespace Go.Proofs.YtahomnplappbpaaGreatDoor.Sc
set_option linter.all false
set_option linter.unusedVariables false
set_option linter.unusedSimpArgs false
open Pm Ty Go.RowKit

/-- A frame whose rows can be parted. -/
def fr4 (V K : Nat) (y u v : List UInt8) : Fm := ⟨((2 * V : Nat) : Int), ((4 * K : Nat) : Int), y, u, v⟩
structure Fok (V K : Nat) (y u v : List UInt8) : Prop where
  rv : 1 ≤ V ∧ V ≤ 32
  rk : 1 ≤ K ∧ K ≤ 16
  ly : y.length = 2 * K * (2 * (2 * V))
  lu : u.length = K * (2 * V)
  lv : v.length = K * (2 * V)
/-- Its field. -/
def fld (V K P : Nat) (y u v : List UInt8) : Fm := ⟨((2 * V : Nat) : Int), ((2 * K : Nat) : Int), ctl y (P * (2 * V)) (2 * (2 * V)) (2 * V) (2 * K), ctl u (P * V) (2 * V) V K, ctl v (P * V) (2 * V) V K⟩
theorem fmd_fr4 {V K : Nat} {y u v : List UInt8} (h : Fok V K y u v) : fmd (fr4 V K y u v) = true := by
  obtain ⟨⟨v1, v2⟩, ⟨k1, k2⟩, hy, hu, hv⟩ := h
  have e1 : ((2 * V : Nat) : Int) / 2 = (V : Int) := by omega
  have e2 : ((4 * K : Nat) : Int) / 2 = ((2 * K : Nat) : Int) := by omega
  have e3 : 2 * K * (2 * (2 * V)) = 2 * V * (4 * K) := by rw [show 2 * (2 * V) = 4 * V by omega, Nat.mul_mul_mul_comm, Nat.mul_mul_mul_comm 2 V 4 K, Nat.mul_comm K V]
  have e4 : K * (2 * V) = V * (2 * K) := by rw [Nat.mul_comm K, Nat.mul_comm 2 V, Nat.mul_assoc]
  have a1 : fsz ((2 * V : Nat) : Int) ((4 * K : Nat) : Int) = true := by
    simp only [fsz, Bool.and_eq_true, decide_eq_true_eq]
    omega
  have a2 : ((2 * V * (4 * K) : Nat) : Int) = ((2 * V : Nat) : Int) * ((4 * K : Nat) : Int) := Int.natCast_mul _ _
  have a3 : ((V * (2 * K) : Nat) : Int) = (V : Int) * ((2 * K : Nat) : Int) := Int.natCast_mul _ _
  simp only [fmd, fr4, a1, e1, e2, hy, hu, hv, e3, e4, a2, a3, decide_true, Bool.and_self]
theorem rows_fit (n w P : Nat) (hP : P ≤ 1) (p : List UInt8) (hp : p.length = n * (2 * w)) : ∀ k, k < n → P * w + k * (2 * w) + w ≤ p.length := fun k hk => by
  have h0 : P * w ≤ w := by
    have : P = 0 ∨ P = 1 := by omega
    rcases this with rfl | rfl <;> simp
  have h1 : (k + 1) * (2 * w) ≤ n * (2 * w) := Nat.mul_le_mul_right _ (by omega)
  rw [Nat.add_mul] at h1
  omega

theorem fe_scoped (n : Nat) (a b : Int) (y u v : List UInt8) (i j k : Nat) (e : Int) : Scoped n (.tup [.agg [.int .i64 a, .int .i64 b, .slice (bs y) i false, .slice (bs u) j false, .slice (bs v) k false], .int .i64 e]) := .tup fun p x hx => by
  have hm := List.mem_of_getElem? hx
  simp only [List.mem_cons, List.not_mem_nil, or_false] at hm
  rcases hm with rfl | rfl
  · refine ag_scoped fun x hx => ?_
    simp only [List.mem_cons, List.not_mem_nil, or_false] at hx
    rcases hx with rfl | rfl | rfl | rfl | rfl
    · exact .int _ _
    · exact .int _ _
    · exact sl_scoped (bs_scoped _ _)
    · exact sl_scoped (bs_scoped _ _)
    · exact sl_scoped (bs_scoped _ _)
  · exact .int _ _

set_option maxHeartbeats 1600000 in
set_option maxRecDepth 10000 in
theorem field_ok (V K P : Nat) (y u v : List UInt8) (H : Heap) (hf : Fok V K y u v) (hP : P ≤ 1) :
    CallOk Tryz.prog 119 [.agg (fmc (fr4 V K y u v)), .int .i64 (P : Int)] H (.tup [.agg (fmc (fld V K P y u v)), .int .i64 0]) H := by
  have hfd := fun H => formed_ok (fr4 V K y u v) H
  rw [fmd_fr4 hf] at hfd
  obtain ⟨⟨v1, v2⟩, ⟨k1, k2⟩, hy, hu, hv⟩ := hf
  have ly := ctl_len y (P * (2 * V)) (2 * (2 * V)) (2 * V) (2 * K) (rows_fit _ _ _ hP _ hy)
  have lu := ctl_len u (P * V) (2 * V) V K (rows_fit _ _ _ hP _ hu)
  have lv := ctl_len v (P * V) (2 * V) V K (rows_fit _ _ _ hP _ hv)
  have hPV : P * V ≤ 32 ∧ P * (2 * V) ≤ 64 := by
    have : P = 0 ∨ P = 1 := by omega
    rcases this with rfl | rfl <;> simp <;> omega
  have by1 : y.length ≤ 8192 := by
    have : 2 * K * (2 * (2 * V)) ≤ 32 * 128 := Nat.mul_le_mul (by omega) (by omega)
    omega
  have bu1 : u.length ≤ 8192 := by
    have : K * (2 * V) ≤ 16 * 64 := Nat.mul_le_mul (by omega) (by omega)
    omega
  have bv1 : v.length ≤ 8192 := by
    have : K * (2 * V) ≤ 16 * 64 := Nat.mul_le_mul (by omega) (by omega)
    omega
  have c1 := fun H => cut_ok y (P * (2 * V)) (2 * (2 * V)) (2 * V) (2 * K) false H (by omega) (by omega) by1 (rows_fit _ _ _ hP _ hy) (by omega)
  have c2 := fun H => cut_ok u (P * V) (2 * V) V K false H (by omega) (by omega) bu1 (rows_fit _ _ _ hP _ hu) (by omega)
  have c3 := fun H => cut_ok v (P * V) (2 * V) V K false H (by omega) (by omega) bv1 (rows_fit _ _ _ hP _ hv) (by omega)
  generalize hr : fmc (fld V K P y u v) = r
  simp only [fmc, fld, ly, lu, lv] at hr
  simp only [fmc, fr4] at hfd ⊢
  have m4 : ((4 * K : Nat) : Int).tmod 4 = 0 := by rw [tmod_pos _ _ (by omega)]; omega
  have d2 : ((4 * K : Nat) : Int).tdiv 2 = ((2 * K : Nat) : Int) := by rw [tdiv_pos _ _ (by omega)]; omega
  have d3 : ((2 * K : Nat) : Int).tdiv 2 = (K : Int) := by rw [tdiv_pos _ _ (by omega)]; omega
  have d4 : ((2 * V : Nat) : Int).tdiv 2 = (V : Int) := by rw [tdiv_pos _ _ (by omega)]; omega
  have x1 : (P : Int) * ((2 * V : Nat) : Int) = ((P * (2 * V) : Nat) : Int) := by simp
  have x2 : (2 : Int) * ((2 * V : Nat) : Int) = ((2 * (2 * V) : Nat) : Int) := by simp
  have x3 : ((P * (2 * V) : Nat) : Int).tdiv 2 = ((P * V : Nat) : Int) := by
    rw [tdiv_pos _ _ (by omega)]
    have : P = 0 ∨ P = 1 := by omega
    rcases this with rfl | rfl <;> simp <;> omega
  refine CallOk.body (F0 := [(0, .agg [.int .i64 ((2 * V : Nat) : Int), .int .i64 ((4 * K : Nat) : Int), .slice (bs y) y.length false, .slice (bs u) u.length false, .slice (bs v) v.length false]), (1, .int .i64 (P : Int))]) Tryz.func119 rfl Tryz.ntmps119 Tryz.results119 rfl (by kernel_rfl) rfl ?_
  (repeat refine PW.seq ?_); refine PW.rg rfl fun K hK => ?_; simp (disch := omega) only [go_sem, ↓reduceIte, reduceCtorEq, pappend, plen]; refine hK _ _ ?_; clear hK K
  (repeat refine PW.seq ?_)
  refine PW.rgv (P := Tryz.prog) [1, 2, 4] 24 (.bool false) ?_ ?_ ?_
  · rfl
  · simp (disch := omega) only [go_sem, ↓reduceIte, reduceCtorEq, pappend, plen]; (repeat' (first | ((first | refine VO_cond ?_ ?_ | refine VOd_cond ?_ ?_ | refine VOg_cond ?_ ?_ | refine VOh_cond ?_ ?_ | refine VOi_cond ?_ ?_ | refine And.intro ?_ ?_) <;> intro h <;> (try simp only [Bool.not_eq_true', Bool.not_eq_false', decide_eq_true_eq, decide_eq_false_iff_not] at h) <;> simp (disch := omega) only [go_sem, ↓reduceIte, reduceCtorEq, pappend, plen, m4, h]) | ((first | refine VCx.call (hfd _) rfl ?_ | refine VCy.call (hfd _) rfl ?_ | refine VCz.call (fun _ => hfd _) rfl ?_ | refine VCk.call (fun _ _ => hfd _) rfl ?_ | refine VCj.now (hfd _) rfl ?_); simp (disch := omega) only [go_sem, ↓reduceIte, reduceCtorEq, pappend, plen, m4])))
    all_goals (simp_all [slot, Nat.beq] <;> first | rfl | omega | (rw [Bool.eq_iff_iff]; simp; done) | (rw [Bool.eq_iff_iff]; simp; omega))
  (repeat refine PW.seq ?_); refine PW.cond (t := _) rfl (fun h => ?_) (fun h => ?_)
  · cases h
  refine PW.skip ?_
  (repeat refine PW.seq ?_); refine PW.draw mix (by kernel_rfl) fun K hK => ?_; simp (disch := omega) only [go_sem, ↓reduceIte, reduceCtorEq, pappend, plen, d2]; refine hK _ _ ?_; clear hK K
  (repeat refine PW.seq ?_); refine PW.draw mix (by kernel_rfl) fun K hK => ?_; simp (disch := omega) only [go_sem, ↓reduceIte, reduceCtorEq, pappend, plen, x1, x2, x3, d3, d4]
  (repeat' (first | ((first | refine VO_cond ?_ ?_ | refine VOd_cond ?_ ?_ | refine VOg_cond ?_ ?_ | refine VOh_cond ?_ ?_ | refine VOi_cond ?_ ?_ | refine And.intro ?_ ?_) <;> intro h <;> (try simp only [Bool.not_eq_true', Bool.not_eq_false', decide_eq_true_eq, decide_eq_false_iff_not] at h) <;> simp (disch := omega) only [go_sem, ↓reduceIte, reduceCtorEq, pappend, plen, x1, x2, x3, d3, d4, h]) | ((first | refine VCx.call (c1 _) rfl ?_ | refine VCx.call (c2 _) rfl ?_ | refine VCx.call (c3 _) rfl ?_ | refine VCy.call (c1 _) rfl ?_ | refine VCy.call (c2 _) rfl ?_ | refine VCy.call (c3 _) rfl ?_ | refine VCz.call (fun _ => c1 _) rfl ?_ | refine VCz.call (fun _ => c2 _) rfl ?_ | refine VCz.call (fun _ => c3 _) rfl ?_ | refine VCk.call (fun _ _ => c1 _) rfl ?_ | refine VCk.call (fun _ _ => c2 _) rfl ?_ | refine VCk.call (fun _ _ => c3 _) rfl ?_ | refine VCj.now (c1 _) rfl ?_ | refine VCj.now (c2 _) rfl ?_ | refine VCj.now (c3 _) rfl ?_); simp (disch := omega) only [go_sem, ↓reduceIte, reduceCtorEq, pappend, plen, x1, x2, x3, d3, d4])))
  refine hK _ _ ?_; clear hK K
  refine PW.ret ⟨.tup [.agg [.int .i64 ((2 * V : Nat) : Int), .int .i64 ((2 * K : Nat) : Int), .slice (bs (ctl y (P * (2 * V)) (2 * (2 * V)) (2 * V) (2 * K))) (2 * K * (2 * V)) false, .slice (bs (ctl u (P * V) (2 * V) V K)) (K * V) false, .slice (bs (ctl v (P * V) (2 * V) V K)) (K * V) false], .int .i64 0], by simp (disch := omega) only [go_sem, ↓reduceIte, reduceCtorEq, pappend, plen, presults, presult, List.mapM_cons, List.mapM_nil, Option.pure_def, Option.bind_eq_bind, Option.bind_some, Array.toList], ?_⟩
  rw [← hr]
  exact Fin.base (.id (fe_scoped _ _ _ _ _ _ _ _ _ _))

set_option maxHeartbeats 1600000 in
set_option maxRecDepth 10000 in
theorem field_ref (V K P : Nat) (y u v : List UInt8) (H : Heap) (hf : Fok V K y u v) (hP : P ≤ 1) :
    CallOk Tryz.prog 25 [.agg (fmc (fr4 V K y u v)), .int .i64 (P : Int)] H (.tup [.agg (fmc (fld V K P y u v)), .int .i64 0]) H := by
  have hfd := fun H => formed_ref (fr4 V K y u v) H
  rw [fmd_fr4 hf] at hfd
  obtain ⟨⟨v1, v2⟩, ⟨k1, k2⟩, hy, hu, hv⟩ := hf
  have ly := ctl_len y (P * (2 * V)) (2 * (2 * V)) (2 * V) (2 * K) (rows_fit _ _ _ hP _ hy)
  have lu := ctl_len u (P * V) (2 * V) V K (rows_fit _ _ _ hP _ hu)
  have lv := ctl_len v (P * V) (2 * V) V K (rows_fit _ _ _ hP _ hv)
  have c1 := fun H => lines_ref y (2 * V) P (2 * K) false H (by omega) hP (by omega) hy
  have c2 := fun H => lines_ref u V P K false H (by omega) hP (by omega) hu
  have c3 := fun H => lines_ref v V P K false H (by omega) hP (by omega) hv
  generalize hr : fmc (fld V K P y u v) = r
  simp only [fmc, fld, ly, lu, lv] at hr
  simp only [fmc, fr4] at hfd ⊢
  have m4 : ((4 * K : Nat) : Int).tmod 4 = 0 := by rw [tmod_pos _ _ (by omega)]; omega
  have d2 : ((4 * K : Nat) : Int).tdiv 2 = ((2 * K : Nat) : Int) := by rw [tdiv_pos _ _ (by omega)]; omega
  have d4 : ((2 * V : Nat) : Int).tdiv 2 = (V : Int) := by rw [tdiv_pos _ _ (by omega)]; omega
  refine CallOk.body (F0 := [(0, .agg [.int .i64 ((2 * V : Nat) : Int), .int .i64 ((4 * K : Nat) : Int), .slice (bs y) y.length false, .slice (bs u) u.length false, .slice (bs v) v.length false]), (1, .int .i64 (P : Int))]) Tryz.func25 rfl Tryz.ntmps25 Tryz.results25 rfl (by kernel_rfl) rfl ?_
  (repeat refine PW.seq ?_); refine PW.rg rfl fun K hK => ?_; simp (disch := omega) only [go_sem, ↓reduceIte, reduceCtorEq, pappend, plen]; refine hK _ _ ?_; clear hK K
  (repeat refine PW.seq ?_)
  refine PW.rgv (P := Tryz.prog) [1, 2, 4] 22 (.bool false) ?_ ?_ ?_
  · rfl
  · simp (disch := omega) only [go_sem, ↓reduceIte, reduceCtorEq, pappend, plen]; (repeat' (first | ((first | refine VO_cond ?_ ?_ | refine VOd_cond ?_ ?_ | refine VOg_cond ?_ ?_ | refine VOh_cond ?_ ?_ | refine VOi_cond ?_ ?_ | refine And.intro ?_ ?_) <;> intro h <;> (try simp only [Bool.not_eq_true', Bool.not_eq_false', decide_eq_true_eq, decide_eq_false_iff_not] at h) <;> simp (disch := omega) only [go_sem, ↓reduceIte, reduceCtorEq, pappend, plen, m4, h]) | ((first | refine VCx.call (hfd _) rfl ?_ | refine VCy.call (hfd _) rfl ?_ | refine VCz.call (fun _ => hfd _) rfl ?_ | refine VCk.call (fun _ _ => hfd _) rfl ?_ | refine VCj.now (hfd _) rfl ?_); simp (disch := omega) only [go_sem, ↓reduceIte, reduceCtorEq, pappend, plen, m4])))
    all_goals (simp_all [slot, Nat.beq] <;> first | rfl | omega | (rw [Bool.eq_iff_iff]; simp; done) | (rw [Bool.eq_iff_iff]; simp; omega))
  (repeat refine PW.seq ?_); refine PW.cond (t := _) rfl (fun h => ?_) (fun h => ?_)
  · cases h
  refine PW.skip ?_
  (repeat refine PW.seq ?_); refine PW.draw mix (by kernel_rfl) fun K hK => ?_; simp (disch := omega) only [go_sem, ↓reduceIte, reduceCtorEq, pappend, plen, d2, d4]
  (repeat' (first | ((first | refine VO_cond ?_ ?_ | refine VOd_cond ?_ ?_ | refine VOg_cond ?_ ?_ | refine VOh_cond ?_ ?_ | refine VOi_cond ?_ ?_ | refine And.intro ?_ ?_) <;> intro h <;> (try simp only [Bool.not_eq_true', Bool.not_eq_false', decide_eq_true_eq, decide_eq_false_iff_not] at h) <;> simp (disch := omega) only [go_sem, ↓reduceIte, reduceCtorEq, pappend, plen, d2, d4, h]) | ((first | refine VCx.call (c1 _) rfl ?_ | refine VCx.call (c2 _) rfl ?_ | refine VCx.call (c3 _) rfl ?_ | refine VCy.call (c1 _) rfl ?_ | refine VCy.call (c2 _) rfl ?_ | refine VCy.call (c3 _) rfl ?_ | refine VCz.call (fun _ => c1 _) rfl ?_ | refine VCz.call (fun _ => c2 _) rfl ?_ | refine VCz.call (fun _ => c3 _) rfl ?_ | refine VCk.call (fun _ _ => c1 _) rfl ?_ | refine VCk.call (fun _ _ => c2 _) rfl ?_ | refine VCk.call (fun _ _ => c3 _) rfl ?_ | refine VCj.now (c1 _) rfl ?_ | refine VCj.now (c2 _) rfl ?_ | refine VCj.now (c3 _) rfl ?_); simp (disch := omega) only [go_sem, ↓reduceIte, reduceCtorEq, pappend, plen, d2, d4])))
  refine hK _ _ ?_; clear hK K
  refine PW.ret ⟨.tup [.agg [.int .i64 ((2 * V : Nat) : Int), .int .i64 ((2 * K : Nat) : Int), .slice (bs (ctl y (P * (2 * V)) (2 * (2 * V)) (2 * V) (2 * K))) (2 * K * (2 * V)) false, .slice (bs (ctl u (P * V) (2 * V) V K)) (K * V) false, .slice (bs (ctl v (P * V) (2 * V) V K)) (K * V) false], .int .i64 0], by simp (disch := omega) only [go_sem, ↓reduceIte, reduceCtorEq, pappend, plen, presults, presult, List.mapM_cons, List.mapM_nil, Option.pure_def, Option.bind_eq_bind, Option.bind_some, Array.toList], ?_⟩
  rw [← hr]
  exact Fin.base (.id (fe_scoped _ _ _ _ _ _ _ _ _ _))

theorem clone_ok (p : List UInt8) (f : Bool) (H : Heap) (hp : 1 ≤ p.length ∧ p.length ≤ 100000) : CallOk Tryz.prog 120 [.slice (bs p) p.length f] H (.slice (bs p) p.length false) H := by
  refine CallOk.body (F0 := [(0, .slice (bs p) p.length f)]) Tryz.func120 rfl Tryz.ntmps120 Tryz.results120 rfl (by kernel_rfl) rfl ?_
  (repeat refine PW.seq ?_); refine PW.rg rfl fun K hK => ?_; simp (disch := omega) only [go_sem, ↓reduceIte, reduceCtorEq, pappend, plen]; refine hK _ _ ?_; clear hK K
  (repeat refine PW.seq ?_); refine PW.rg rfl fun K hK => ?_; simp (disch := omega) only [go_sem, ↓reduceIte, reduceCtorEq, pappend, plen]; refine hK _ _ ?_; clear hK K
  (repeat refine PW.seq ?_); refine PW.cond (t := _) rfl (fun h => ?_) (fun h => ?_)
  · cases h
  refine PW.skip ?_
  (repeat refine PW.seq ?_); refine PW.rg rfl fun K hK => ?_; simp (disch := omega) only [go_sem, ↓reduceIte, reduceCtorEq, pappend, plen, length_bs]; refine hK _ _ ?_; clear hK K
  refine PW.ret ⟨_, rfl, ?_⟩
  exact Fin.base (Fz.mslC (e := 5) (xs := bs p) (Nat.le_refl _) (by simp [length_bs]) (by rw [length_bs]; omega) (FzC.refl (bs_scoped _ _)))

theorem same_ok (p q : List UInt8) (f g : Bool) (H : Heap) : CallOk Tryz.prog 31 [.slice (bs p) p.length f, .slice (bs q) q.length g] H (.bool (p == q)) H := by
  refine CallOk.body (F0 := [(0, .slice (bs p) p.length f), (1, .slice (bs q) q.length g)]) Tryz.func31 rfl Tryz.ntmps31 Tryz.results31 rfl (by kernel_rfl) rfl ?_
  (repeat refine PW.seq ?_); refine PW.rg rfl fun K hK => ?_; simp (disch := omega) only [go_sem, ↓reduceIte, reduceCtorEq, pappend, plen]; refine hK _ _ ?_; clear hK K
  (repeat refine PW.seq ?_); refine PW.rg rfl fun K hK => ?_; simp (disch := omega) only [go_sem, ↓reduceIte, reduceCtorEq, pappend, plen, length_bs, pbytes_bs]; refine hK _ _ ?_; clear hK K
  exact PW.ret ⟨_, rfl, .inl ⟨rfl, rfl⟩⟩
theorem equal_ref (f : Fm) (H : Heap) : CallOk Tryz.prog 17 [.agg (fmc f), .agg (fmc f)] H (.bool true) H := by
  obtain ⟨w, ht, y, u, v⟩ := f
  have s1 := fun H => same_ok y y false false H
  have s2 := fun H => same_ok u u false false H
  have s3 := fun H => same_ok v v false false H
  simp only [beq_self_eq_true] at s1 s2 s3
  refine CallOk.body (F0 := [(0, .agg (fmc ⟨w, ht, y, u, v⟩)), (1, .agg (fmc ⟨w, ht, y, u, v⟩))]) Tryz.func17 rfl Tryz.ntmps17 Tryz.results17 rfl (by kernel_rfl) rfl ?_
  (repeat' (first | refine PW.seq ?_ | refine PW.skip ?_ | refine PW.block ?_ | (refine PW.rg rfl fun K hK => ?_; simp (disch := omega) only [go_sem, ↓reduceIte, reduceCtorEq, pappend, plen, fmc]) | (refine PW.draw mix (by kernel_rfl) fun K hK => ?_; simp (disch := omega) only [go_sem, ↓reduceIte, reduceCtorEq, pappend, plen, fmc]) | (refine PW.drawg mix (by kernel_rfl) fun K hK => ?_; simp (disch := omega) only [go_sem, ↓reduceIte, reduceCtorEq, pappend, plen, fmc]) | (refine PW.drawt [] [] mix (by kernel_rfl) fun K hK => ?_; simp (disch := omega) only [go_sem, ↓reduceIte, reduceCtorEq, pappend, plen, fmc]) | ((first | refine VO_cond ?_ ?_ | refine VOd_cond ?_ ?_ | refine VOg_cond ?_ ?_ | refine VOh_cond ?_ ?_ | refine VOi_cond ?_ ?_ | refine And.intro ?_ ?_) <;> intro h <;> (try simp only [Bool.not_eq_true', Bool.not_eq_false', decide_eq_true_eq, decide_eq_false_iff_not] at h) <;> simp (disch := omega) only [go_sem, ↓reduceIte, reduceCtorEq, pappend, plen, fmc, h]) | ((first | refine VCx.call (s1 _) rfl ?_ | refine VCx.call (s2 _) rfl ?_ | refine VCx.call (s3 _) rfl ?_ | refine VCy.call (s1 _) rfl ?_ | refine VCy.call (s2 _) rfl ?_ | refine VCy.call (s3 _) rfl ?_ | refine VCz.call (fun _ => s1 _) rfl ?_ | refine VCz.call (fun _ => s2 _) rfl ?_ | refine VCz.call (fun _ => s3 _) rfl ?_ | refine VCk.call (fun _ _ => s1 _) rfl ?_ | refine VCk.call (fun _ _ => s2 _) rfl ?_ | refine VCk.call (fun _ _ => s3 _) rfl ?_ | refine VCj.now (s1 _) rfl ?_ | refine VCj.now (s2 _) rfl ?_ | refine VCj.now (s3 _) rfl ?_); simp (disch := omega) only [go_sem, ↓reduceIte, reduceCtorEq, pappend, plen, fmc]) | (refine hK _ _ ?_; clear hK K) | (refine PW.cond (t := _) rfl (fun h => ?_) (fun h => ?_) <;> (try (cases h; done)) <;> (try simp only [Bool.not_eq_true', Bool.not_eq_false', decide_eq_true_eq, decide_eq_false_iff_not] at h))))
  all_goals ((refine PW.ret ⟨_, rfl, ?_⟩; first | refine .inl ⟨?_, rfl⟩ | refine Fin.base (.id' ?_ (.bool _)) | refine Fin.base (.id' ?_ (.int _ _))); (simp_all [slot, Nat.beq] <;> first | rfl | omega | (rw [Bool.eq_iff_iff]; simp; done) | (rw [Bool.eq_iff_iff]; simp; omega)))

end Go.Proofs.YtahomnplappbpaaGreatDoor.Sc

namespace Go.Proofs.YtahomnplappbpaaGreatDoor.Sc
set_option linter.all false
set_option linter.unusedVariables false
set_option linter.unusedSimpArgs false
open Pm Ty Go.RowKit

/-- A context. -/
structure Cx where
  t : Int
  s : Int
  i : Bool
  n : Bool
/-- A macroblock. -/
structure Mb where
  k : Int
  ua : Bool
  ub : Bool
  fp : Bool
  fd : Bool
  va : Int
  vb : Int
  vc : Int
  vd : Int
  ve : Int
  vf : Int
  vg : Int
  vh : Int
  sa : Int
  sb : Int
  sc : Int
  sd : Int
  dl : Int
  ca : Bool
  cb : Bool
  cc : Bool
  cd : Bool
  ce : Bool
  cf : Bool
  lv : List Int
def mbc (m : Mb) : List PV := .int .i64 m.k :: .bool m.ua :: .bool m.ub :: .bool m.fp :: .bool m.fd :: .int .i64 m.va :: .int .i64 m.vb :: .int .i64 m.vc :: .int .i64 m.vd :: .int .i64 m.ve :: .int .i64 m.vf :: .int .i64 m.vg :: .int .i64 m.vh :: .int .i64 m.sa :: .int .i64 m.sb :: .int .i64 m.sc :: .int .i64 m.sd :: .int .i64 m.dl :: .bool m.ca :: .bool m.cb :: .bool m.cc :: .bool m.cd :: .bool m.ce :: .bool m.cf :: is m.lv
def win (x n : Int) : Bool := decide (-n ≤ x) && decide (x ≤ n)
def vrg (x y : Int) : Bool := win x 63 && win y 63

end Go.Proofs.YtahomnplappbpaaGreatDoor.Sc

namespace Go.Proofs.YtahomnplappbpaaGreatDoor.Sc
set_option linter.all false
set_option linter.unusedVariables false
set_option linter.unusedSimpArgs false
open Pm Ty Go.RowKit

end Go.Proofs.YtahomnplappbpaaGreatDoor.Sc
