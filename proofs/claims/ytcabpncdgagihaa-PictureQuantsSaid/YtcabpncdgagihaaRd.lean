/-
  Contracts of package block: reading levels, the parts that panic.
-/
import Derived.Test.YtcabpncdgagihaaRb
import Derived.Test.YtcabpncdgagihaaHb
import Derived.Test.YtcabpncdgagihaaPmPy
namespace Go.Proofs.Ytcabpncdgagihaa.Sc
set_option linter.all false
set_option linter.unusedVariables false
set_option linter.unusedSimpArgs false
open Pm Ty Go.RowKit

/-- The levels whose code begins at place a, from position p on. -/
def tkB (q : List UInt8) (n : Nat) : Nat → Nat → Nat → List Int → Rr (List Int)
  | 0, _, a, _ => .er 2 a
  | f + 1, p, a, l => (tkU q n a).bind fun v a1 => if v = 0 then .ok l a1 else if 64 < p + v then .er 2 a1 else
    (tkS q n a1).bind fun w a2 => if w = 0 then .er 2 a2 else if win w 4095 = false then .er 2 a2 else tkB q n f (p + v) a2 (l.set (p + v - 1) w)
def z64 : List Int := List.replicate 64 0
def tkBl (q : List UInt8) (n fr a : Nat) : Rr (List Int) := tkB q n 65 fr a z64
theorem tkB_b {q : List UInt8} {n : Nat} : ∀ (f p a : Nat) (l : List Int) {l' : List Int} {a' : Nat}, tkB q n f p a l = .ok l' a' → a ≤ n → a < a' ∧ a' ≤ n ∧ l'.length = l.length
  | 0, p, a, l, l', a', h, ha => by simp [tkB] at h
  | f + 1, p, a, l, l', a', h, ha => by
    simp only [tkB] at h
    cases hu : tkU q n a with
    | er e a1 => rw [hu] at h; cases h
    | ok v a1 =>
      have b1 := tkU_b hu ha
      rw [hu, Rr.bind_ok] at h
      split at h
      · injection h with h1 h2; subst h1 h2; exact ⟨b1.2.1, b1.2.2, rfl⟩
      · split at h
        · cases h
        · cases hv : tkS q n a1 with
          | er e a2 => rw [hv] at h; cases h
          | ok w a2 =>
            have b2 := tkS_b hv b1.2.2
            rw [hv, Rr.bind_ok] at h
            split at h
            · cases h
            · split at h
              · cases h
              · have := tkB_b f (p + v) a2 _ h b2.2.2
                rw [List.length_set] at this
                exact ⟨by omega, this.2.1, this.2.2⟩
theorem tkB_e {q : List UInt8} {n : Nat} : ∀ (f p a : Nat) (l : List Int) {e a' : Nat}, tkB q n f p a l = .er e a' → a ≤ n → a ≤ a' ∧ a' ≤ n ∧ e ≤ 3
  | 0, p, a, l, e, a', h, ha => by
    simp only [tkB] at h
    injection h with h1 h2
    omega
  | f + 1, p, a, l, e, a', h, ha => by
    simp only [tkB] at h
    cases hu : tkU q n a with
    | er e1 a1 =>
      rw [hu] at h
      have := tkU_e hu
      injection h with h1 h2
      omega
    | ok v a1 =>
      have b1 := tkU_b hu ha
      rw [hu, Rr.bind_ok] at h
      split at h
      · cases h
      · split at h
        · injection h with h1 h2; omega
        · cases hv : tkS q n a1 with
          | er e2 a2 =>
            rw [hv] at h
            have := tkS_e hv
            injection h with h1 h2
            omega
          | ok w a2 =>
            have b2 := tkS_b hv b1.2.2
            rw [hv, Rr.bind_ok] at h
            split at h
            · injection h with h1 h2; omega
            · split at h
              · injection h with h1 h2; omega
              · have := tkB_e f (p + v) a2 _ h b2.2.2
                omega

/-- What package block panics with. -/
def bpn (e : Nat) : List PanicEntry := pnc 175 .i64 ((e : Int) + 1)
theorem must_ok (v : Int) (H : Heap) : CallOk Try.prog 127 [.int .i64 v, .int .i64 0] H (.int .i64 v) H := by
  refine CallOk.body (F0 := [(0, .int .i64 v), (1, .int .i64 0)]) Try.func127 rfl Try.ntmps127 Try.results127 rfl (by kernel_rfl) rfl ?_
  (repeat' (first | refine PW.seq ?_ | refine PW.skip ?_ | refine PW.block ?_ | (refine PW.rg rfl fun K hK => ?_; simp (maxSteps := 3000000) (disch := omega) only [go_sem, ↓reduceIte, reduceCtorEq, pappend, plen]) | (refine PW.draw mix (by kernel_rfl) fun K hK => ?_; simp (maxSteps := 3000000) (disch := omega) only [go_sem, ↓reduceIte, reduceCtorEq, pappend, plen]) | (refine PW.drawg mix (by kernel_rfl) fun K hK => ?_; simp (maxSteps := 3000000) (disch := omega) only [go_sem, ↓reduceIte, reduceCtorEq, pappend, plen]) | (refine PW.drawt [] [] mix (by kernel_rfl) fun K hK => ?_; simp (maxSteps := 3000000) (disch := omega) only [go_sem, ↓reduceIte, reduceCtorEq, pappend, plen]) | ((first | refine VO_cond (fun h => ?_) (fun h => ?_) | refine VOd_cond (fun h => ?_) (fun h => ?_) | refine VOg_cond (fun h => ?_) (fun h => ?_) | refine VOh_cond (fun h => ?_) (fun h => ?_) | refine VOi_cond (fun h => ?_) (fun h => ?_) | refine And.intro (fun h => ?_) (fun h => ?_)) <;> (try simp only [Bool.not_eq_true', Bool.not_eq_false', decide_eq_true_eq, decide_eq_false_iff_not] at h) <;> simp (maxSteps := 3000000) (disch := omega) only [go_sem, ↓reduceIte, reduceCtorEq, pappend, plen, h]) | (refine hK _ _ ?_; clear hK K) | (refine PW.cond (t := _) rfl (fun h => ?_) (fun h => ?_) <;> (try (cases h; done)) <;> (try simp only [Bool.not_eq_true', Bool.not_eq_false', decide_eq_true_eq, decide_eq_false_iff_not] at h))))
  all_goals exact PW.ret ⟨_, rfl, Fin.now⟩
theorem must_pan (e : Nat) (H : Heap) : CallPan Try.prog 127 [.int .i64 0, .int .i64 ((e : Int) + 1)] H (bpn e) H := by
  have d : ((e : Int) + 1 != 0) = true := by simp; omega
  refine CallPan.body (F0 := [(0, .int .i64 0), (1, .int .i64 ((e : Int) + 1))]) Try.func127 rfl Try.ntmps127 rfl (by kernel_rfl) rfl ?_
  (repeat refine PW.seq ?_); refine PW.rg rfl fun K hK => ?_; simp (maxSteps := 3000000) (disch := omega) only [go_sem, ↓reduceIte, reduceCtorEq, pappend, plen]; refine hK _ _ ?_; clear hK K
  (repeat refine PW.seq ?_); refine PW.rg rfl fun K hK => ?_; simp (maxSteps := 3000000) (disch := omega) only [go_sem, ↓reduceIte, reduceCtorEq, pappend, plen, d]; refine hK _ _ ?_; clear hK K
  (repeat refine PW.seq ?_); refine PW.cond (t := _) rfl (fun h => ?_) (fun h => ?_)
  rotate_left
  · cases h
  (repeat refine PW.seq ?_); refine PW.raiseV (k := .i64) (e := (e : Int) + 1) 2 rfl ⟨_, _, _, rfl, rfl, rfl, rfl, rfl, rfl⟩ (Nat.le_of_ble_eq_true rfl) (by kernel_rfl) fun K hK => ?_; simp (maxSteps := 3000000) (disch := omega) only [go_sem, ↓reduceIte, reduceCtorEq, pappend, plen]; refine hK _ _ rfl ?_; clear hK K
  exact ⟨rfl, .inl rfl⟩

/-- What read has in memory. -/
def rdH (H : Heap) (i : Nat) (p : List UInt8) (n a : Nat) (l : List Int) : Heap := H.set i (rA p n a) ++ [⟨46, 0, is z64⟩, ⟨46, 0, is l⟩]
section
variable (H : Heap) (i : Nat) (p : List UInt8) (n a : Nat) (l : List Int)
theorem rdH_i (hi : i < H.length) : (rdH H i p n a l)[i]? = some (rA p n a) := by
  unfold rdH; rw [List.getElem?_append_left (by simpa using hi)]; simp [hi]
theorem rdH_si (hi : i < H.length) (a' : Nat) : (rdH H i p n a l).set i (rA p n a') = rdH H i p n a' l := by
  unfold rdH; rw [List.set_append_left _ _ (by simpa using hi), List.set_set]
theorem rdH_0 : (rdH H i p n a l)[H.length]? = some ⟨46, 0, is z64⟩ := by
  have := hp0 (H.set i (rA p n a)) [⟨46, 0, is l⟩] ⟨46, 0, is z64⟩
  rwa [List.length_set] at this
theorem rdH_1 : (rdH H i p n a l)[H.length + 1]? = some ⟨46, 0, is l⟩ := by
  have := hp1 (H.set i (rA p n a)) [] ⟨46, 0, is z64⟩ ⟨46, 0, is l⟩
  rwa [List.length_set] at this
theorem rdH_s1 (l' : List Int) : (rdH H i p n a l).set (H.length + 1) ⟨46, 0, is l'⟩ = rdH H i p n a l' := by
  have := hs1 (H.set i (rA p n a)) [] ⟨46, 0, is z64⟩ ⟨46, 0, is l⟩ ⟨46, 0, is l'⟩
  rwa [List.length_set] at this
theorem rdH_s0 (l' : List Int) : (rdH H i p n a l).set H.length ⟨46, 0, is l'⟩ = H.set i (rA p n a) ++ [⟨46, 0, is l'⟩, ⟨46, 0, is l⟩] := by
  have := hs0 (H.set i (rA p n a)) [⟨46, 0, is l⟩] ⟨46, 0, is z64⟩ ⟨46, 0, is l'⟩
  rwa [List.length_set] at this
end
theorem rd_out (H : Heap) (i : Nat) (p : List UInt8) (n a : Nat) (l : List Int) : POut H (H.set i (rA p n a)) (rdH H i p n a l) :=
  .inr (.inr fun h => ⟨by simp, CutH.base (hsc_rA _ _ _ _ _ h)⟩)

set_option maxHeartbeats 1000000 in
theorem read_pan (i : Nat) (p : List UInt8) (n a fr e a' : Nat) (H : Heap) (hA : H[i]? = some (rA p n a)) (ha : a ≤ n) (hn : n ≤ 8 * p.length) (hp : p.length ≤ 100000000) (hfr : fr ≤ 1) (hr : tkBl p n fr a = .er e a') :
    CallPan Try.prog 115 [.ptr i 0 0, .int .i64 (fr : Int)] H (bpn e) (H.set i (rA p n a')) := by
  have hi := (List.getElem?_eq_some_iff.1 hA).1
  have hself := set_self hA
  have al := fun x K => alw_ok x K
  have mo := fun v K => must_ok v K
  have mp := fun e K => must_pan e K
  refine CallPan.body (F0 := [(0, .ptr i 0 0), (1, .int .i64 (fr : Int))]) Try.func115 rfl Try.ntmps115 rfl (by kernel_rfl) rfl ?_
  (repeat refine PW.seq ?_); refine PW.rg rfl fun K hK => ?_; simp (maxSteps := 3000000) (disch := omega) only [go_sem, ↓reduceIte, reduceCtorEq, pappend, plen]; refine hK _ _ ?_; clear hK K
  (repeat refine PW.seq ?_); refine PW.rg rfl fun K hK => ?_; simp (maxSteps := 3000000) (disch := omega) only [go_sem, ↓reduceIte, reduceCtorEq, pappend, plen]; refine hK _ _ ?_; clear hK K
  (repeat refine PW.seq ?_); refine PW.rg rfl fun K hK => ?_; simp (maxSteps := 3000000) (disch := omega) only [go_sem, ↓reduceIte, reduceCtorEq, pappend, plen]; refine hK _ _ ?_; clear hK K
  (repeat refine PW.seq ?_); refine PW.block (PW.loop ?_)
  suffices hl : ∀ (f at' a : Nat) (l : List Int), at' ≤ 64 → 64 - at' < f → a ≤ n → l.length = 64 → tkB p n f at' a l = .er e a' → PL Try.prog _ _ [(0, .ptr i 0 0), (4, .ptr H.length 0 0), (5, .ptr (H.length + 1) 0 0), (6, .int .i64 ((at' : Int) - 1))] (rdH H i p n a l) _ by
    exact PL.at [0, 4, 5, 6] (hl 65 fr a z64 (by omega) (by omega) ha (by simp [z64]) hr) rfl (by unfold rdH; rw [hself]; rfl)
  clear hr hself hA ha
  intro f
  induction f with
  | zero => intro at' a l h1 h2; omega
  | succ f ih =>
    intro at' a l h1 h2 ha hll hr
    have tu := tku_ok i p n a (rdH H i p n a l) (rdH_i H i p n a l hi) ha hn hp
    simp only [tkB] at hr
    refine PL.round ?_; (repeat refine PW.seq ?_); refine PW.block ?_
    cases hu : tkU p n a with
    | er e1 a1 =>
      rw [hu, Rr.bind_er] at hr
      injection hr with r1 r2
      subst r1 r2
      rw [hu] at tu
      simp only [rvU, Rr.at, rdH_si _ _ _ _ _ _ hi] at tu
      (repeat refine PW.seq ?_); refine PW.panV 4 rfl ⟨_, _, rfl, rfl, rfl⟩ fun K hK => ?_; simp (maxSteps := 3000000) (disch := omega) only [go_sem, ↓reduceIte, reduceCtorEq, pappend, plen]
      refine VCx.call (tu) rfl ?_; simp (maxSteps := 3000000) (disch := omega) only [go_sem, ↓reduceIte, reduceCtorEq, pappend, plen]
      exact hK _ _ _ _ _ _ rfl (mp _ _) ⟨rfl, rd_out ..⟩
    | ok v a1 =>
      have b1 := tkU_b hu ha
      rw [hu, Rr.bind_ok] at hr
      rw [hu] at tu
      simp only [rvU, Rr.at, rdH_si _ _ _ _ _ _ hi] at tu
      have hv0 : ¬ v = 0 := fun e0 => by rw [if_pos e0] at hr; cases hr
      rw [if_neg hv0] at hr
      have d1 : ((v : Int) == 0) = false := by rw [beq_eq_false_iff_ne]; omega
      (repeat refine PW.seq ?_); refine PW.rg rfl fun K hK => ?_; simp (maxSteps := 3000000) (disch := omega) only [go_sem, ↓reduceIte, reduceCtorEq, pappend, plen]
      refine VCx.call (tu) rfl ?_; simp (maxSteps := 3000000) (disch := omega) only [go_sem, ↓reduceIte, reduceCtorEq, pappend, plen]
      refine VCx.call (mo _ _) rfl ?_; simp (maxSteps := 3000000) (disch := omega) only [go_sem, ↓reduceIte, reduceCtorEq, pappend, plen]; refine hK _ _ ?_; clear hK K
      (repeat refine PW.seq ?_); refine PW.rg rfl fun K hK => ?_; simp (maxSteps := 3000000) (disch := omega) only [go_sem, ↓reduceIte, reduceCtorEq, pappend, plen, d1]; refine hK _ _ ?_; clear hK K
      (repeat refine PW.seq ?_); refine PW.cond (t := _) rfl (fun h => ?_) (fun h => ?_)
      · cases h
      refine PW.skip ?_
      (repeat refine PW.seq ?_); refine PW.rg rfl fun K hK => ?_; simp (maxSteps := 3000000) (disch := omega) only [go_sem, ↓reduceIte, reduceCtorEq, pappend, plen]; refine hK _ _ ?_; clear hK K
      have e1 : (at' : Int) - 1 + (v : Int) = ((at' + v : Nat) : Int) - 1 := by omega
      by_cases h64 : 64 < at' + v
      · rw [if_pos h64] at hr
        injection hr with r1 r2
        subst r1 r2
        have d2 : decide ((64 : Int) ≤ ((at' + v : Nat) : Int) - 1) = true := decide_eq_true (by omega)
        (repeat refine PW.seq ?_); refine PW.rg rfl fun K hK => ?_; simp (maxSteps := 3000000) (disch := omega) only [go_sem, ↓reduceIte, reduceCtorEq, pappend, plen, e1, d2]; refine hK _ _ ?_; clear hK K
        (repeat refine PW.seq ?_); refine PW.cond (t := _) rfl (fun h => ?_) (fun h => ?_)
        rotate_left
        · cases h
        (repeat refine PW.seq ?_); refine PW.raiseV (k := .i64) (e := 3) 1 rfl ⟨_, _, _, rfl, rfl, rfl, rfl, rfl, rfl⟩ (Nat.le_of_ble_eq_true rfl) (by kernel_rfl) fun K hK => ?_; simp (maxSteps := 3000000) (disch := omega) only [go_sem, ↓reduceIte, reduceCtorEq, pappend, plen]; refine hK _ _ rfl ?_; clear hK K
        exact ⟨rfl, rd_out ..⟩
      rw [if_neg h64] at hr
      have d2 : decide ((64 : Int) ≤ ((at' + v : Nat) : Int) - 1) = false := decide_eq_false (by omega)
      (repeat refine PW.seq ?_); refine PW.rg rfl fun K hK => ?_; simp (maxSteps := 3000000) (disch := omega) only [go_sem, ↓reduceIte, reduceCtorEq, pappend, plen, e1, d2]; refine hK _ _ ?_; clear hK K
      (repeat refine PW.seq ?_); refine PW.cond (t := _) rfl (fun h => ?_) (fun h => ?_)
      · cases h
      refine PW.skip ?_
      have ts := tks_ok i p n a1 (rdH H i p n a1 l) (rdH_i H i p n a1 l hi) b1.2.2 hn hp
      cases hw : tkS p n a1 with
      | er e2 a2 =>
        rw [hw, Rr.bind_er] at hr
        injection hr with r1 r2
        subst r1 r2
        rw [hw] at ts
        simp only [rvS, Rr.at, rdH_si _ _ _ _ _ _ hi] at ts
        (repeat refine PW.seq ?_); refine PW.panV 5 rfl ⟨_, _, rfl, rfl, rfl⟩ fun K hK => ?_; simp (maxSteps := 3000000) (disch := omega) only [go_sem, ↓reduceIte, reduceCtorEq, pappend, plen]
        refine VCx.call (ts) rfl ?_; simp (maxSteps := 3000000) (disch := omega) only [go_sem, ↓reduceIte, reduceCtorEq, pappend, plen]
        exact hK _ _ _ _ _ _ rfl (mp _ _) ⟨rfl, rd_out ..⟩
      | ok w a2 =>
        have b2 := tkS_b hw b1.2.2
        rw [hw, Rr.bind_ok] at hr
        rw [hw] at ts
        simp only [rvS, Rr.at, rdH_si _ _ _ _ _ _ hi] at ts
        have e3 : ((at' + v : Nat) : Int) - 1 = ((at' + v - 1 : Nat) : Int) := by omega
        have hil : (is l).length = 64 := by rw [is_len, hll]
        (repeat refine PW.seq ?_); refine PW.rg rfl fun K hK => ?_; simp (maxSteps := 3000000) (disch := omega) only [go_sem, ↓reduceIte, reduceCtorEq, pappend, plen]
        refine VCx.call (ts) rfl ?_; simp (maxSteps := 3000000) (disch := omega) only [go_sem, ↓reduceIte, reduceCtorEq, pappend, plen]
        refine VCx.call (mo _ _) rfl ?_; simp (maxSteps := 3000000) (disch := omega) only [go_sem, ↓reduceIte, reduceCtorEq, pappend, plen, e1, e3, rdH_1, hil, is_set, rdH_s1]; refine hK _ _ ?_; clear hK K
        have hgl : (is (l.set (at' + v - 1) w))[at' + v - 1]? = some (.int .i64 w) := by
          rw [is_get _ _ (by rw [List.length_set]; omega)]
          simp [intAt, hll, show at' + v - 1 < 64 by omega]
        have hil2 : (is (l.set (at' + v - 1) w)).length = 64 := by rw [is_len, List.length_set, hll]
        by_cases hw0 : w = 0
        · rw [if_pos hw0] at hr
          injection hr with r1 r2
          subst r1 r2
          have d3 : (w == 0) = true := by simp [hw0]
          (repeat refine PW.seq ?_); refine PW.rg rfl fun K hK => ?_; simp (maxSteps := 3000000) (disch := omega) only [go_sem, ↓reduceIte, reduceCtorEq, pappend, plen, e1, e3, rdH_1, hil2, hgl, d3]; refine hK _ _ ?_; clear hK K
          (repeat refine PW.seq ?_); refine PW.cond (t := _) rfl (fun h => ?_) (fun h => ?_)
          rotate_left
          · cases h
          (repeat refine PW.seq ?_); refine PW.raiseV (k := .i64) (e := 3) 1 rfl ⟨_, _, _, rfl, rfl, rfl, rfl, rfl, rfl⟩ (Nat.le_of_ble_eq_true rfl) (by kernel_rfl) fun K hK => ?_; simp (maxSteps := 3000000) (disch := omega) only [go_sem, ↓reduceIte, reduceCtorEq, pappend, plen]; refine hK _ _ rfl ?_; clear hK K
          exact ⟨rfl, rd_out ..⟩
        · rw [if_neg hw0] at hr
          have d3 : (w == 0) = false := by simp [hw0]
          have alw := fun K => al w K
          cases hwn : win w 4095 with
          | false =>
            rw [hwn, if_pos rfl] at hr
            rw [hwn] at alw
            injection hr with r1 r2
            subst r1 r2
            (repeat refine PW.seq ?_); refine PW.rg rfl fun K hK => ?_; simp (maxSteps := 3000000) (disch := omega) only [go_sem, ↓reduceIte, reduceCtorEq, pappend, plen, e1, e3, rdH_1, hil2, hgl, d3]
            refine VCx.call (alw _) rfl ?_; simp (maxSteps := 3000000) (disch := omega) only [go_sem, ↓reduceIte, reduceCtorEq, pappend, plen]; refine hK _ _ ?_; clear hK K
            (repeat refine PW.seq ?_); refine PW.cond (t := _) rfl (fun h => ?_) (fun h => ?_)
            rotate_left
            · cases h
            (repeat refine PW.seq ?_); refine PW.raiseV (k := .i64) (e := 3) 1 rfl ⟨_, _, _, rfl, rfl, rfl, rfl, rfl, rfl⟩ (Nat.le_of_ble_eq_true rfl) (by kernel_rfl) fun K hK => ?_; simp (maxSteps := 3000000) (disch := omega) only [go_sem, ↓reduceIte, reduceCtorEq, pappend, plen]; refine hK _ _ rfl ?_; clear hK K
            exact ⟨rfl, rd_out ..⟩
          | true =>
            rw [hwn, if_neg (by decide)] at hr
            rw [hwn] at alw
            (repeat refine PW.seq ?_); refine PW.rg rfl fun K hK => ?_; simp (maxSteps := 3000000) (disch := omega) only [go_sem, ↓reduceIte, reduceCtorEq, pappend, plen, e1, e3, rdH_1, hil2, hgl, d3]
            refine VCx.call (alw _) rfl ?_; simp (maxSteps := 3000000) (disch := omega) only [go_sem, ↓reduceIte, reduceCtorEq, pappend, plen]; refine hK _ _ ?_; clear hK K
            (repeat refine PW.seq ?_); refine PW.cond (t := _) rfl (fun h => ?_) (fun h => ?_)
            · cases h
            refine PW.skip ?_
            exact PL.at [0, 4, 5, 6] (ih (at' + v) a2 _ (by omega) (by omega) b2.2.2 (by rw [List.length_set, hll]) hr) (by simp [kp, slot, Nat.beq]; omega) rfl

set_option maxHeartbeats 1000000 in
theorem read_ok (i : Nat) (p : List UInt8) (n a fr a' : Nat) (l' : List Int) (H : Heap) (hA : H[i]? = some (rA p n a)) (ha : a ≤ n) (hn : n ≤ 8 * p.length) (hp : p.length ≤ 100000000) (hfr : fr ≤ 1) (hr : tkBl p n fr a = .ok l' a') :
    CallOk Try.prog 115 [.ptr i 0 0, .int .i64 (fr : Int)] H (.agg (is l')) (H.set i (rA p n a')) := by
  have hi := (List.getElem?_eq_some_iff.1 hA).1
  have hself := set_self hA
  have al := fun x K => alw_ok x K
  have mo := fun v K => must_ok v K
  have mp := fun e K => must_pan e K
  refine CallOk.body (F0 := [(0, .ptr i 0 0), (1, .int .i64 (fr : Int))]) Try.func115 rfl Try.ntmps115 Try.results115 rfl (by kernel_rfl) rfl ?_
  (repeat refine PW.seq ?_); refine PW.rg rfl fun K hK => ?_; simp (maxSteps := 3000000) (disch := omega) only [go_sem, ↓reduceIte, reduceCtorEq, pappend, plen]; refine hK _ _ ?_; clear hK K
  (repeat refine PW.seq ?_); refine PW.rg rfl fun K hK => ?_; simp (maxSteps := 3000000) (disch := omega) only [go_sem, ↓reduceIte, reduceCtorEq, pappend, plen]; refine hK _ _ ?_; clear hK K
  (repeat refine PW.seq ?_); refine PW.rg rfl fun K hK => ?_; simp (maxSteps := 3000000) (disch := omega) only [go_sem, ↓reduceIte, reduceCtorEq, pappend, plen]; refine hK _ _ ?_; clear hK K
  (repeat refine PW.seq ?_); refine PW.block (PW.loop ?_)
  suffices hl : ∀ (f at' a : Nat) (l : List Int), at' ≤ 64 → 64 - at' < f → a ≤ n → l.length = 64 → tkB p n f at' a l = .ok l' a' → PL Try.prog _ _ [(0, .ptr i 0 0), (4, .ptr H.length 0 0), (5, .ptr (H.length + 1) 0 0), (6, .int .i64 ((at' : Int) - 1))] (rdH H i p n a l) _ by
    exact PL.at [0, 4, 5, 6] (hl 65 fr a z64 (by omega) (by omega) ha (by simp [z64]) hr) rfl (by unfold rdH; rw [hself]; rfl)
  clear hr hself hA ha
  intro f
  induction f with
  | zero => intro at' a l h1 h2; omega
  | succ f ih =>
    intro at' a l h1 h2 ha hll hr
    have tu := tku_ok i p n a (rdH H i p n a l) (rdH_i H i p n a l hi) ha hn hp
    simp only [tkB] at hr
    refine PL.round ?_; (repeat refine PW.seq ?_); refine PW.block ?_
    cases hu : tkU p n a with
    | er e1 a1 =>
      rw [hu, Rr.bind_er] at hr
      cases hr
    | ok v a1 =>
      have b1 := tkU_b hu ha
      rw [hu, Rr.bind_ok] at hr
      rw [hu] at tu
      simp only [rvU, Rr.at, rdH_si _ _ _ _ _ _ hi] at tu
      by_cases hv0 : v = 0
      · rw [if_pos hv0] at hr
        injection hr with r1 r2
        subst r1 r2
        have d1 : ((v : Int) == 0) = true := by simp [hv0]
        (repeat refine PW.seq ?_); refine PW.rg rfl fun K hK => ?_; simp (maxSteps := 3000000) (disch := omega) only [go_sem, ↓reduceIte, reduceCtorEq, pappend, plen]
        refine VCx.call (tu) rfl ?_; simp (maxSteps := 3000000) (disch := omega) only [go_sem, ↓reduceIte, reduceCtorEq, pappend, plen]
        refine VCx.call (mo _ _) rfl ?_; simp (maxSteps := 3000000) (disch := omega) only [go_sem, ↓reduceIte, reduceCtorEq, pappend, plen]; refine hK _ _ ?_; clear hK K
        (repeat refine PW.seq ?_); refine PW.rg rfl fun K hK => ?_; simp (maxSteps := 3000000) (disch := omega) only [go_sem, ↓reduceIte, reduceCtorEq, pappend, plen, d1]; refine hK _ _ ?_; clear hK K
        (repeat refine PW.seq ?_); refine PW.cond (t := _) rfl (fun h => ?_) (fun h => ?_)
        rotate_left
        · cases h
        have hil : (is l).length = 64 := by rw [is_len, hll]
        have hz : (is z64).length = 64 := by rw [is_len]; simp [z64]
        have htk : List.take 64 (is l) = is l := List.take_of_length_le (by omega)
        have hcel := is_cell l
        have hdz : List.drop 64 (is z64) = [] := List.drop_of_length_le (by omega)
        have hg0 : (H.set i (rA p n a1) ++ [⟨46, 0, is l⟩, ⟨46, 0, is l⟩])[H.length]? = some ⟨46, 0, is l⟩ := by
          have := hp0 (H.set i (rA p n a1)) [⟨46, 0, is l⟩] ⟨46, 0, is l⟩
          rwa [List.length_set] at this
        (repeat refine PW.seq ?_); refine PW.rg rfl fun K hK => ?_; simp (maxSteps := 3000000) (disch := omega) only [go_sem, ↓reduceIte, reduceCtorEq, pappend, plen, rdH_1, rdH_0, hil, hz, htk, hcel, hdz, rdH_s0]; refine hK _ _ ?_; clear hK K
        refine PW.ret ⟨.agg (is l), by simp (maxSteps := 3000000) (disch := omega) only [go_sem, ↓reduceIte, reduceCtorEq, pappend, plen, presults, presult, List.mapM_cons, List.mapM_nil, Option.pure_def, Option.bind_eq_bind, Option.bind_some, Array.toList, hg0, hil, htk], ?_⟩
        exact Fin.cut rfl (by simp) (hsc_rA _ _ _ _ _) (.id (ag_scoped (is_scoped _ _)))
      rw [if_neg hv0] at hr
      have d1 : ((v : Int) == 0) = false := by rw [beq_eq_false_iff_ne]; omega
      (repeat refine PW.seq ?_); refine PW.rg rfl fun K hK => ?_; simp (maxSteps := 3000000) (disch := omega) only [go_sem, ↓reduceIte, reduceCtorEq, pappend, plen]
      refine VCx.call (tu) rfl ?_; simp (maxSteps := 3000000) (disch := omega) only [go_sem, ↓reduceIte, reduceCtorEq, pappend, plen]
      refine VCx.call (mo _ _) rfl ?_; simp (maxSteps := 3000000) (disch := omega) only [go_sem, ↓reduceIte, reduceCtorEq, pappend, plen]; refine hK _ _ ?_; clear hK K
      (repeat refine PW.seq ?_); refine PW.rg rfl fun K hK => ?_; simp (maxSteps := 3000000) (disch := omega) only [go_sem, ↓reduceIte, reduceCtorEq, pappend, plen, d1]; refine hK _ _ ?_; clear hK K
      (repeat refine PW.seq ?_); refine PW.cond (t := _) rfl (fun h => ?_) (fun h => ?_)
      · cases h
      refine PW.skip ?_
      (repeat refine PW.seq ?_); refine PW.rg rfl fun K hK => ?_; simp (maxSteps := 3000000) (disch := omega) only [go_sem, ↓reduceIte, reduceCtorEq, pappend, plen]; refine hK _ _ ?_; clear hK K
      have e1 : (at' : Int) - 1 + (v : Int) = ((at' + v : Nat) : Int) - 1 := by omega
      by_cases h64 : 64 < at' + v
      · rw [if_pos h64] at hr
        cases hr
      rw [if_neg h64] at hr
      have d2 : decide ((64 : Int) ≤ ((at' + v : Nat) : Int) - 1) = false := decide_eq_false (by omega)
      (repeat refine PW.seq ?_); refine PW.rg rfl fun K hK => ?_; simp (maxSteps := 3000000) (disch := omega) only [go_sem, ↓reduceIte, reduceCtorEq, pappend, plen, e1, d2]; refine hK _ _ ?_; clear hK K
      (repeat refine PW.seq ?_); refine PW.cond (t := _) rfl (fun h => ?_) (fun h => ?_)
      · cases h
      refine PW.skip ?_
      have ts := tks_ok i p n a1 (rdH H i p n a1 l) (rdH_i H i p n a1 l hi) b1.2.2 hn hp
      cases hw : tkS p n a1 with
      | er e2 a2 =>
        rw [hw, Rr.bind_er] at hr
        cases hr
      | ok w a2 =>
        have b2 := tkS_b hw b1.2.2
        rw [hw, Rr.bind_ok] at hr
        rw [hw] at ts
        simp only [rvS, Rr.at, rdH_si _ _ _ _ _ _ hi] at ts
        have e3 : ((at' + v : Nat) : Int) - 1 = ((at' + v - 1 : Nat) : Int) := by omega
        have hil : (is l).length = 64 := by rw [is_len, hll]
        (repeat refine PW.seq ?_); refine PW.rg rfl fun K hK => ?_; simp (maxSteps := 3000000) (disch := omega) only [go_sem, ↓reduceIte, reduceCtorEq, pappend, plen]
        refine VCx.call (ts) rfl ?_; simp (maxSteps := 3000000) (disch := omega) only [go_sem, ↓reduceIte, reduceCtorEq, pappend, plen]
        refine VCx.call (mo _ _) rfl ?_; simp (maxSteps := 3000000) (disch := omega) only [go_sem, ↓reduceIte, reduceCtorEq, pappend, plen, e1, e3, rdH_1, hil, is_set, rdH_s1]; refine hK _ _ ?_; clear hK K
        have hgl : (is (l.set (at' + v - 1) w))[at' + v - 1]? = some (.int .i64 w) := by
          rw [is_get _ _ (by rw [List.length_set]; omega)]
          simp [intAt, hll, show at' + v - 1 < 64 by omega]
        have hil2 : (is (l.set (at' + v - 1) w)).length = 64 := by rw [is_len, List.length_set, hll]
        by_cases hw0 : w = 0
        · rw [if_pos hw0] at hr
          cases hr
        · rw [if_neg hw0] at hr
          have d3 : (w == 0) = false := by simp [hw0]
          have alw := fun K => al w K
          cases hwn : win w 4095 with
          | false =>
            rw [hwn, if_pos rfl] at hr
            cases hr
          | true =>
            rw [hwn, if_neg (by decide)] at hr
            rw [hwn] at alw
            (repeat refine PW.seq ?_); refine PW.rg rfl fun K hK => ?_; simp (maxSteps := 3000000) (disch := omega) only [go_sem, ↓reduceIte, reduceCtorEq, pappend, plen, e1, e3, rdH_1, hil2, hgl, d3]
            refine VCx.call (alw _) rfl ?_; simp (maxSteps := 3000000) (disch := omega) only [go_sem, ↓reduceIte, reduceCtorEq, pappend, plen]; refine hK _ _ ?_; clear hK K
            (repeat refine PW.seq ?_); refine PW.cond (t := _) rfl (fun h => ?_) (fun h => ?_)
            · cases h
            refine PW.skip ?_
            exact PL.at [0, 4, 5, 6] (ih (at' + v) a2 _ (by omega) (by omega) b2.2.2 (by rw [List.length_set, hll]) hr) (by simp [kp, slot, Nat.beq]; omega) rfl

end Go.Proofs.Ytcabpncdgagihaa.Sc
