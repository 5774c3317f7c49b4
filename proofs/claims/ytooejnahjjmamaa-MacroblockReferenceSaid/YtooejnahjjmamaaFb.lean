/-
  Contracts of chapter 7: rows of a plane; fields; copies.
-/
import Derived.Test.YtooejnahjjmamaaFa
namespace Go.Proofs.Ytooejnahjjmamaa.Sc
set_option linter.all false
set_option linter.unusedVariables false
set_option linter.unusedSimpArgs false
open Pm Ty Go.RowKit

/-- r rows of w samples, s apart, from a on. -/
def ctl (p : List UInt8) (a s w : Nat) (r : Nat) : List UInt8 := ((List.range r).map fun k => (p.drop (a + k * s)).take w).flatten
theorem ctl_snoc (p : List UInt8) (a s w r : Nat) : ctl p a s w (r + 1) = ctl p a s w r ++ (p.drop (a + r * s)).take w := by simp [ctl, List.range_succ]
theorem ctl_len (p : List UInt8) (a s w : Nat) : ∀ r, (∀ k, k < r → a + k * s + w ≤ p.length) → (ctl p a s w r).length = r * w
  | 0, _ => by simp [ctl]
  | r + 1, h => by
    have := h r (by omega)
    rw [ctl_snoc, List.length_append, ctl_len p a s w r (fun k hk => h k (by omega)), List.length_take, List.length_drop, Nat.succ_mul]
    omega

theorem lines_ref (p : List UInt8) (w c n : Nat) (f : Bool) (H : Heap) (hw : 1 ≤ w ∧ w ≤ 64) (hc : c ≤ 1) (hn : n ≤ 64) (hp : p.length = n * (2 * w)) :
    CallOk Try.prog 28 [.slice (bs p) p.length f, .int .i64 (w : Int), .int .i64 (c : Int)] H (.slice (bs (ctl p (c * w) (2 * w) w n)) (n * w) false) H := by
  have hcw : c * w ≤ w := by
    have : c = 0 ∨ c = 1 := by omega
    rcases this with rfl | rfl <;> simp
  have hfit : ∀ k, k < n → c * w + k * (2 * w) + w ≤ p.length := fun k hk => by
    have h1 : (k + 1) * (2 * w) ≤ n * (2 * w) := Nat.mul_le_mul_right _ (by omega)
    rw [Nat.succ_mul] at h1
    omega
  have hbig : n * (2 * w) ≤ 8192 := by
    have h1 : n * (2 * w) ≤ 64 * (2 * w) := Nat.mul_le_mul_right _ hn
    omega
  have e0 : (c : Int) * (w : Int) = ((c * w : Nat) : Int) := by simp
  have e2 : (2 : Int) * (w : Int) = ((2 * w : Nat) : Int) := by simp
  refine CallOk.body (F0 := [(0, .slice (bs p) p.length f), (1, .int .i64 (w : Int)), (2, .int .i64 (c : Int))]) Try.func28 rfl Try.ntmps28 Try.results28 rfl (by kernel_rfl) rfl ?_
  (repeat refine PW.seq ?_); refine PW.rg rfl fun K hK => ?_; simp (disch := omega) only [go_sem, ↓reduceIte, reduceCtorEq, pappend, plen]; refine hK _ _ ?_; clear hK K; (repeat refine PW.seq ?_); refine PW.rg rfl fun K hK => ?_; simp (disch := omega) only [go_sem, ↓reduceIte, reduceCtorEq, pappend, plen]; refine hK _ _ ?_; clear hK K
  (repeat refine PW.seq ?_); refine PW.rg rfl fun K hK => ?_; simp (disch := omega) only [go_sem, ↓reduceIte, reduceCtorEq, pappend, plen, e0]; refine hK _ _ ?_; clear hK K
  (repeat refine PW.seq ?_)
  refine PW.view (Vs.ghost 7 5 1 rfl) ?_
  refine PW.block (PW.loop ?_)
  suffices hloop : ∀ (r at' : Nat), r ≤ n → at' = c * w + r * (2 * w) → PL Try.prog _ _ [(0, .slice (bs p) p.length f), (1, .int .i64 (w : Int)), (7, .msl H.length (r * w) 0 (r * w) 1 true), (8, .int .i64 (at' : Int))] (H ++ [⟨5, r * w, bs (ctl p (c * w) (2 * w) w r)⟩]) _ by
    exact PL.at [0, 1, 7, 8] (hloop 0 (c * w) (Nat.zero_le _) (by simp)) (by simp [kp, slot, Nat.beq]) (by simp [ctl, bs])
  intro r at' hr hat
  induction hm : n - r using Nat.strongRecOn generalizing r at' with
  | _ m ih =>
    have hcl := ctl_len p (c * w) (2 * w) w r (fun k hk => hfit k (by omega))
    refine PL.round ?_; (repeat refine PW.seq ?_); refine PW.rg rfl fun K hK => ?_; simp (disch := omega) only [go_sem, ↓reduceIte, reduceCtorEq, pappend, plen]; refine hK _ _ ?_; clear hK K
    (repeat refine PW.seq ?_); refine PW.cond (t := _) rfl (fun h => ?_) (fun h => ?_)
    · have h4 : at' < p.length := by have := of_decide_eq_true h; omega
      have h5 : r < n := by
        rcases Nat.lt_or_ge r n with h6 | h6
        · exact h6
        · have : r = n := by omega
          subst this
          omega
      have h6 := hfit r h5
      have hnext := ih (n - (r + 1)) (by omega) (r + 1) (at' + 2 * w) (by omega) (by have := Nat.add_mul r 1 (2 * w); omega) rfl
      rw [ctl_snoc, bs_append] at hnext
      have e1 : (at' : Int) + (w : Int) = ((at' + w : Nat) : Int) := by omega
      have e3 : at' + w - at' = w := by omega
      have hrl : r * w ≤ 8192 := by
        have : r * w ≤ n * (2 * w) := Nat.mul_le_mul (by omega) (by omega)
        omega
      have htl : ((p.drop at').take w).length = w := by simp; omega
      refine PW.skip ?_; (repeat refine PW.seq ?_); refine PW.block ?_
      (repeat refine PW.seq ?_); refine PW.rg rfl fun K hK => ?_; simp (disch := omega) only [go_sem, ↓reduceIte, reduceCtorEq, pappend, plen, e1, e3, length_bs, hcl, bs_drop, bs_take, htl]; refine hK _ _ ?_; clear hK K
      (repeat refine PW.seq ?_); refine PW.rg rfl fun K hK => ?_; simp (disch := omega) only [go_sem, ↓reduceIte, reduceCtorEq, pappend, plen, e2]; refine hK _ _ ?_; clear hK K
      have hc1 : (bs (ctl p (c * w) (2 * w) w r) ++ bs ((p.drop at').take w)).length = (r + 1) * w := by rw [List.length_append, length_bs, length_bs, hcl, htl, Nat.add_mul]; omega
      have hlen : r * w + w = (r + 1) * w := by rw [Nat.add_mul]; omega
      rw [← hat] at hnext
      refine PL.at [0, 1, 7, 8] hnext ?_ ?_
      · simp (disch := omega) only [go_sem, ↓reduceIte, reduceCtorEq, pappend, plen]
        rw [hc1, hlen]
        rfl
      · rw [hc1]
    · have h4 : ¬ at' < p.length := by have := of_decide_eq_false h; omega
      have h5 : r = n := by
        rcases Nat.lt_or_ge r n with h6 | h6
        · have := hfit r h6; omega
        · omega
      subst h5
      refine PW.exit ?_
      (repeat refine PW.seq ?_); refine PW.rg rfl fun K hK => ?_; simp (disch := omega) only [go_sem, ↓reduceIte, reduceCtorEq, pappend, plen]; refine hK _ _ ?_; clear hK K
      refine PW.ret ⟨_, rfl, ?_⟩
      exact Fin.base (Fz.mslC (e := 5) (xs := bs (ctl p (c * w) (2 * w) w r)) (Nat.le_refl _) (by simp) (by rw [length_bs, hcl]; omega) (FzC.refl (bs_scoped _ _)))

theorem bs_zero (n : Nat) : reps n [PV.int .u8 0] = bs (List.replicate n 0) := by
  rw [bs_rep]
  induction n with
  | zero => rfl
  | succ n ih => rw [List.replicate_succ, ← ih]; simp [reps, List.replicate_succ]
theorem splice_mid (x y z : List UInt8) : splice (bs (x ++ y)) x.length (bs z) = bs (x ++ (z ++ y.drop z.length)) := by
  unfold splice
  rw [bs_take, bs_drop, length_bs, ← bs_append, ← bs_append]
  congr 1
  simp [List.drop_append]

theorem cut_ok (p : List UInt8) (a s w n : Nat) (f : Bool) (H : Heap) (hw : w ≤ 64) (hn : n ≤ 64) (hp : p.length ≤ 8192) (hfit : ∀ k, k < n → a + k * s + w ≤ p.length) (hs : s ≤ 200 ∧ a ≤ 200) :
    CallOk Try.prog 39 [.slice (bs p) p.length f, .agg [.int .i64 (a : Int), .int .i64 (s : Int), .int .i64 (w : Int), .int .i64 (n : Int)]] H (.slice (bs (ctl p a s w n)) (n * w) false) H := by
  have e0 : (w : Int) * (n : Int) = ((n * w : Nat) : Int) := by rw [Nat.mul_comm]; simp
  have hbig : n * w ≤ 4096 := Nat.mul_le_mul hn hw
  refine CallOk.body (F0 := [(0, .slice (bs p) p.length f), (1, .agg [.int .i64 (a : Int), .int .i64 (s : Int), .int .i64 (w : Int), .int .i64 (n : Int)])]) Try.func39 rfl Try.ntmps39 Try.results39 rfl (by kernel_rfl) rfl ?_
  (repeat refine PW.seq ?_); refine PW.rg rfl fun K hK => ?_; simp (disch := omega) only [go_sem, ↓reduceIte, reduceCtorEq, pappend, plen]; refine hK _ _ ?_; clear hK K
  (repeat refine PW.seq ?_); refine PW.rg rfl fun K hK => ?_; simp (disch := omega) only [go_sem, ↓reduceIte, reduceCtorEq, pappend, plen, e0]; refine hK _ _ ?_; clear hK K
  (repeat refine PW.seq ?_); refine PW.rg rfl fun K hK => ?_; simp (disch := omega) only [go_sem, ↓reduceIte, reduceCtorEq, pappend, plen]; refine hK _ _ ?_; clear hK K
  (repeat refine PW.seq ?_); refine PW.block (PW.loop ?_)
  suffices hloop : ∀ (r : Nat), r ≤ n → PL Try.prog _ _ [(0, .slice (bs p) p.length f), (3, .ptr H.length 0 0), (5, .msl (H.length + 1) 0 0 (n * w) 1 true), (14, .int .i64 (n : Int)), (15, .int .i64 (r : Int))] (H ++ [⟨80, 0, [.int .i64 (a : Int), .int .i64 (s : Int), .int .i64 (w : Int), .int .i64 (n : Int)]⟩, ⟨5, 0, bs (ctl p a s w r ++ List.replicate ((n - r) * w) 0)⟩]) _ by
    exact PL.at [0, 3, 5, 14, 15] (hloop 0 (Nat.zero_le _)) rfl (by rw [show ctl p a s w 0 = [] from rfl, List.nil_append, Nat.sub_zero, ← bs_zero]; rfl)
  intro r hr
  induction hm : n - r using Nat.strongRecOn generalizing r with
  | _ m ih =>
    have hcl := ctl_len p a s w r (fun k hk => hfit k (by omega))
    refine PL.round ?_; (repeat refine PW.seq ?_); refine PW.rg rfl fun K hK => ?_; simp (disch := omega) only [go_sem, ↓reduceIte, reduceCtorEq, pappend, plen]; refine hK _ _ ?_; clear hK K
    (repeat refine PW.seq ?_); refine PW.cond (t := _) rfl (fun h => ?_) (fun h => ?_)
    · have h4 : r < n := by have := of_decide_eq_true h; omega
      have hnext := ih (n - (r + 1)) (by omega) (r + 1) (by omega) rfl
      have h6 := hfit r h4
      have eR : (r : Int) * (w : Int) = ((r * w : Nat) : Int) := by simp
      have eR1 : ((r : Int) + 1) * (w : Int) = (((r + 1) * w : Nat) : Int) := by simp
      have eS : (r : Int) * (s : Int) = ((r * s : Nat) : Int) := by simp
      have eA : (a : Int) + ((r * s : Nat) : Int) = ((a + r * s : Nat) : Int) := by simp
      have b2 : (r + 1) * w ≤ n * w := Nat.mul_le_mul_right _ (by omega)
      have b1 : (r + 1) * w = r * w + w := by rw [Nat.add_mul]; omega
      have e3 : r * w + w - r * w = w := by omega
      have hbl : (ctl p a s w r ++ List.replicate (m * w) 0).length = n * w := by
        rw [List.length_append, hcl, List.length_replicate, ← Nat.add_mul, show r + m = n by omega]
      have htk : List.take (p.length - (a + r * s)) (List.drop (a + r * s) p) = List.drop (a + r * s) p := List.take_of_length_le (by simp)
      have hdl : (List.drop (a + r * s) p).length = p.length - (a + r * s) := List.length_drop
      have hmin : min (p.length - (a + r * s)) w = w := by omega
      have hzl : (List.take w (List.drop (a + r * s) p)).length = w := by simp; omega
      have htk1 : List.take (r * w) (ctl p a s w r ++ List.replicate (m * w) 0) = ctl p a s w r := by rw [← hcl]; exact List.take_left
      have htk2 : List.drop (r * w + w) (ctl p a s w r ++ List.replicate (m * w) 0) = List.replicate ((n - (r + 1)) * w) 0 := by
        rw [← hcl, List.drop_append, hcl, List.drop_of_length_le (by omega), List.nil_append, List.drop_replicate]
        congr 1
        have : m * w = (n - (r + 1)) * w + w := by rw [← Nat.succ_mul]; congr 1; omega
        omega
      refine PW.skip ?_; (repeat refine PW.seq ?_); refine PW.block ?_
      (repeat refine PW.seq ?_); refine PW.rg rfl fun K hK => ?_; simp (disch := omega) only [go_sem, ↓reduceIte, reduceCtorEq, pappend, plen]; refine hK _ _ ?_; clear hK K
      rw [b1] at eR1 b2
      (repeat refine PW.seq ?_); refine PW.draw mix (by kernel_rfl) fun K hK => ?_; simp (disch := omega) only [go_sem, ↓reduceIte, reduceCtorEq, pappend, plen, eR, eR1, eS, eA, e3, length_bs, hbl, bs_drop, bs_take, htk, hdl, hmin, hzl, htk1, htk2]; refine hK _ _ ?_; clear hK K
      (repeat refine PW.seq ?_); refine PW.rg rfl fun K hK => ?_; simp (disch := omega) only [go_sem, ↓reduceIte, reduceCtorEq, pappend, plen]; refine hK _ _ ?_; clear hK K
      rw [ctl_snoc, List.append_assoc, bs_append, bs_append] at hnext
      exact PL.at [0, 3, 5, 14, 15] hnext rfl rfl
    · have h4 : r = n := by have := of_decide_eq_false h; omega
      subst h4
      refine PW.exit ?_
      (repeat refine PW.seq ?_); refine PW.rg rfl fun K hK => ?_; simp (disch := omega) only [go_sem, ↓reduceIte, reduceCtorEq, pappend, plen]; refine hK _ _ ?_; clear hK K
      refine PW.ret ⟨_, rfl, ?_⟩
      rw [show r - r = 0 from Nat.sub_self r] at hm
      subst hm
      rw [Nat.zero_mul, List.replicate_zero, List.append_nil]
      exact Fin.base (Fz.mslC (e := 5) (xs := bs (ctl p a s w r)) (by omega) (hp1 _ _ _ _) (by rw [length_bs, hcl]; omega) (FzC.refl (bs_scoped _ _)))

end Go.Proofs.Ytooejnahjjmamaa.Sc
