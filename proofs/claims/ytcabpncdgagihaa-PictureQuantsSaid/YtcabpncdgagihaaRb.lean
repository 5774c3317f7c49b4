/-
  Contracts of package vlc: reading numbers.
-/
import Derived.Test.YtcabpncdgagihaaRa
import Derived.Test.YtcabpncdgagihaaHa
namespace Go.Proofs.Ytcabpncdgagihaa.Sc
set_option linter.all false
set_option linter.unusedVariables false
set_option linter.unusedSimpArgs false
open Pm Ty Go.RowKit

theorem rA_sc (p : List UInt8) (n a k : Nat) : ∀ x ∈ (rA p n a).cells, Scoped k x := fun x hx => by
  simp only [rA, List.mem_cons, List.not_mem_nil, or_false] at hx
  rcases hx with rfl | rfl | rfl
  · exact sl_scoped (bs_scoped _ _)
  · exact .int _ _
  · exact .int _ _
theorem hsc_rA (H : Heap) (i : Nat) (p : List UInt8) (n a : Nat) (h : HSc H) : HSc (H.set i (rA p n a)) := HSc.set h (rA_sc _ _ _ _)
/-- What is returned. -/
def rvU : Rr Nat → PV
  | .ok v _ => .tup [.int .i64 (v : Int), .int .i64 0]
  | .er e _ => .tup [.int .i64 0, .int .i64 ((e : Int) + 1)]
def rvS : Rr Int → PV
  | .ok v _ => .tup [.int .i64 v, .int .i64 0]
  | .er e _ => .tup [.int .i64 0, .int .i64 ((e : Int) + 1)]
theorem tup2_sc (k : Nat) (x y : Int) : Scoped k (.tup [.int .i64 x, .int .i64 y]) := .tup fun j x hx => by
  have := List.mem_of_getElem? hx
  simp only [List.mem_cons, List.not_mem_nil, or_false] at this
  rcases this with rfl | rfl <;> exact .int _ _
theorem pshl1_64 (k' : IntKind) (s : Nat) (h : s ≤ 40) : pint .shl .i64 1 k' (s : Int) = some (.int .i64 ((2 ^ s : Nat) : Int)) := by
  have h2 : 2 ^ s ≤ 2 ^ 40 := Nat.pow_le_pow_right (by omega) h
  simp only [pint, IntKind.bits]
  rw [if_neg (by omega), show min (s : Int).toNat 64 = s by omega, show (1 : Int) * (2 : Int) ^ s = ((2 ^ s : Nat) : Int) by simp]
  generalize 2 ^ s = N at *
  rw [w64 _ (by omega)]

theorem tku_ok (i : Nat) (p : List UInt8) (n a : Nat) (H : Heap) (hA : H[i]? = some (rA p n a)) (ha : a ≤ n) (hn : n ≤ 8 * p.length) (hp : p.length ≤ 100000000) :
    CallOk Try.prog 93 [.ptr i 0 0] H (rvU (tkU p n a)) (H.set i (rA p n (tkU p n a).at)) := by
  have hi := (List.getElem?_eq_some_iff.1 hA).1
  have hself := set_self hA
  have hA' := fun K => get_ext (K := K) hA
  refine CallOk.body (F0 := [(0, .ptr i 0 0)]) Try.func93 rfl Try.ntmps93 Try.results93 rfl (by kernel_rfl) rfl ?_
  (repeat refine PW.seq ?_); refine PW.rg rfl fun K hK => ?_; simp (maxSteps := 3000000) (disch := omega) only [go_sem, ↓reduceIte, reduceCtorEq, pappend, plen]; refine hK _ _ ?_; clear hK K
  (repeat refine PW.seq ?_); refine PW.rg rfl fun K hK => ?_; simp (maxSteps := 3000000) (disch := omega) only [go_sem, ↓reduceIte, reduceCtorEq, pappend, plen, hA]; refine hK _ _ ?_; clear hK K
  (repeat refine PW.seq ?_); refine PW.cond (t := _) rfl (fun h => ?_) (fun h => ?_)
  · cases h
  refine PW.skip ?_
  (repeat refine PW.seq ?_); refine PW.rg rfl fun K hK => ?_; simp (maxSteps := 3000000) (disch := omega) only [go_sem, ↓reduceIte, reduceCtorEq, pappend, plen, hA, rA]; refine hK _ _ ?_; clear hK K
  (repeat refine PW.seq ?_); refine PW.rg rfl fun K hK => ?_; simp (maxSteps := 3000000) (disch := omega) only [go_sem, ↓reduceIte, reduceCtorEq, pappend, plen]; refine hK _ _ ?_; clear hK K
  (repeat refine PW.seq ?_); refine PW.block (PW.loop ?_)
  suffices hl : ∀ j, j ≤ 15 → zrs p n 16 a = j + zrs p n (16 - j) (a + j) → a + j ≤ n → PL Try.prog _ _ [(0, .ptr i 0 0), (4, .ptr H.length 0 0), (5, .int .i64 (j : Int))] (H ++ [rA p n (a + j)]) _ by
    exact PL.at [0, 4, 5] (hl 0 (by omega) (by simp) (by omega)) rfl rfl
  intro j hj hz hjn
  induction hd : 16 - j using Nat.strongRecOn generalizing j with
  | _ d ih =>
    subst hd
    refine PL.round ?_; (repeat refine PW.seq ?_); refine PW.block ?_
    by_cases h0 : n = a + j
    · have t := rtake_short H.length p n (a + j) 1 (H ++ [rA p n (a + j)]) (hp0 _ _ _) hjn (by omega) (by omega) (by omega)
      have hz0 : zrs p n (16 - j) (a + j) = 0 := zrs_end (by omega)
      have hr : tkU p n a = .er 3 a := by
        unfold tkU; rw [if_neg (by omega), if_pos (by omega)]
      (repeat refine PW.seq ?_); refine PW.rg rfl fun K hK => ?_; simp (maxSteps := 3000000) (disch := omega) only [go_sem, ↓reduceIte, reduceCtorEq, pappend, plen]; refine VCx.call (t) rfl ?_; simp (maxSteps := 3000000) (disch := omega) only [go_sem, ↓reduceIte, reduceCtorEq, pappend, plen]; refine hK _ _ ?_; clear hK K
      (repeat refine PW.seq ?_); refine PW.rg rfl fun K hK => ?_; simp (maxSteps := 3000000) (disch := omega) only [go_sem, ↓reduceIte, reduceCtorEq, pappend, plen]; refine hK _ _ ?_; clear hK K
      (repeat refine PW.seq ?_); refine PW.cond (t := _) rfl (fun h => ?_) (fun h => ?_)
      rotate_left
      · cases h
      (repeat refine PW.seq ?_); refine PW.rg rfl fun K hK => ?_; simp (maxSteps := 3000000) (disch := omega) only [go_sem, ↓reduceIte, reduceCtorEq, pappend, plen]; refine hK _ _ ?_; clear hK K
      refine PW.ret ⟨.tup [.int .i64 0, .int .i64 4], by simp (maxSteps := 3000000) (disch := omega) only [go_sem, ↓reduceIte, reduceCtorEq, pappend, plen, presults, presult, List.mapM_cons, List.mapM_nil, Option.pure_def, Option.bind_eq_bind, Option.bind_some, Array.toList], ?_⟩
      rw [hr]
      exact Fin.cut (show _ = H.set i (rA p n a) ++ [_] by rw [hself]) (by simp) (hsc_rA _ _ _ _ _) (.id (tup2_sc _ _ _))
    have t := rtake_ok H.length p n (a + j) 1 (H ++ [rA p n (a + j)]) (hp0 _ _ _) (by omega) hn hp (by omega)
    have hv1 : vl p (a + j) 1 = ubit p (a + j) := by simp [vl]
    rw [hv1, hs0, show a + j + 1 = a + (j + 1) by omega] at t
    have hub := ubit_lt p (a + j)
    (repeat refine PW.seq ?_); refine PW.rg rfl fun K hK => ?_; simp (maxSteps := 3000000) (disch := omega) only [go_sem, ↓reduceIte, reduceCtorEq, pappend, plen]; refine VCx.call (t) rfl ?_; simp (maxSteps := 3000000) (disch := omega) only [go_sem, ↓reduceIte, reduceCtorEq, pappend, plen]; refine hK _ _ ?_; clear hK K
    (repeat refine PW.seq ?_); refine PW.rg rfl fun K hK => ?_; simp (maxSteps := 3000000) (disch := omega) only [go_sem, ↓reduceIte, reduceCtorEq, pappend, plen]; refine hK _ _ ?_; clear hK K
    (repeat refine PW.seq ?_); refine PW.cond (t := _) rfl (fun h => ?_) (fun h => ?_)
    · cases h
    refine PW.skip ?_
    by_cases h1 : ubit p (a + j) = 1
    · have hz1 : zrs p n (16 - j) (a + j) = 0 := zrs_one h1
      rw [hz1, Nat.add_zero] at hz
      rw [h1]
      (repeat refine PW.seq ?_); refine PW.rg rfl fun K hK => ?_; simp (maxSteps := 3000000) (disch := omega) only [go_sem, ↓reduceIte, reduceCtorEq, pappend, plen]; refine hK _ _ ?_; clear hK K
      (repeat refine PW.seq ?_); refine PW.cond (t := _) rfl (fun h => ?_) (fun h => ?_)
      rotate_left
      · cases h
      refine PW.exit ?_
      by_cases h2 : n - (a + (j + 1)) < j
      · have t2 := rtake_short H.length p n (a + (j + 1)) j (H ++ [rA p n (a + (j + 1))]) (hp0 _ _ _) (by omega) (by omega) (by omega) h2
        have hr : tkU p n a = .er 3 a := by
          unfold tkU; rw [if_neg (by omega), if_pos (by omega)]
        (repeat refine PW.seq ?_); refine PW.rg rfl fun K hK => ?_; simp (maxSteps := 3000000) (disch := omega) only [go_sem, ↓reduceIte, reduceCtorEq, pappend, plen]; refine VCx.call (t2) rfl ?_; simp (maxSteps := 3000000) (disch := omega) only [go_sem, ↓reduceIte, reduceCtorEq, pappend, plen]; refine hK _ _ ?_; clear hK K
        (repeat refine PW.seq ?_); refine PW.rg rfl fun K hK => ?_; simp (maxSteps := 3000000) (disch := omega) only [go_sem, ↓reduceIte, reduceCtorEq, pappend, plen]; refine hK _ _ ?_; clear hK K
        (repeat refine PW.seq ?_); refine PW.cond (t := _) rfl (fun h => ?_) (fun h => ?_)
        rotate_left
        · cases h
        (repeat refine PW.seq ?_); refine PW.rg rfl fun K hK => ?_; simp (maxSteps := 3000000) (disch := omega) only [go_sem, ↓reduceIte, reduceCtorEq, pappend, plen]; refine hK _ _ ?_; clear hK K
        refine PW.ret ⟨.tup [.int .i64 0, .int .i64 4], by simp (maxSteps := 3000000) (disch := omega) only [go_sem, ↓reduceIte, reduceCtorEq, pappend, plen, presults, presult, List.mapM_cons, List.mapM_nil, Option.pure_def, Option.bind_eq_bind, Option.bind_some, Array.toList], ?_⟩
        rw [hr]
        exact Fin.cut (show _ = H.set i (rA p n a) ++ [_] by rw [hself]) (by simp) (hsc_rA _ _ _ _ _) (.id (tup2_sc _ _ _))
      · have t2 := rtake_ok H.length p n (a + (j + 1)) j (H ++ [rA p n (a + (j + 1))]) (hp0 _ _ _) (by omega) hn hp (by omega)
        rw [hs0] at t2
        have hr : tkU p n a = .ok (2 ^ j + vl p (a + (j + 1)) j - 1) (a + (2 * j + 1)) := by
          unfold tkU; rw [if_neg (by omega), if_neg (by omega), hz, show a + j + 1 = a + (j + 1) by omega]
        have hvl := vl_lt p (a + (j + 1)) j
        have hpw : 2 ^ j ≤ 2 ^ 15 := Nat.pow_le_pow_right (by omega) hj
        have hsum : ((2 ^ j : Nat) : Int) + (vl p (a + (j + 1)) j : Int) - 1 = ((2 ^ j + vl p (a + (j + 1)) j - 1 : Nat) : Int) := by
          have : 0 < 2 ^ j := Nat.pow_pos (by omega)
          omega
        rw [hr]
        simp only [Rr.at, rvU]
        rw [show a + (j + 1) + j = a + (2 * j + 1) by omega] at t2
        generalize vl p (a + (j + 1)) j = w at *
        (repeat refine PW.seq ?_); refine PW.rg rfl fun K hK => ?_; simp (maxSteps := 3000000) (disch := omega) only [go_sem, ↓reduceIte, reduceCtorEq, pappend, plen]; refine VCx.call (t2) rfl ?_; simp (maxSteps := 3000000) (disch := omega) only [go_sem, ↓reduceIte, reduceCtorEq, pappend, plen]; refine hK _ _ ?_; clear hK K
        (repeat refine PW.seq ?_); refine PW.rg rfl fun K hK => ?_; simp (maxSteps := 3000000) (disch := omega) only [go_sem, ↓reduceIte, reduceCtorEq, pappend, plen]; refine hK _ _ ?_; clear hK K
        (repeat refine PW.seq ?_); refine PW.cond (t := _) rfl (fun h => ?_) (fun h => ?_)
        · cases h
        refine PW.skip ?_
        (repeat refine PW.seq ?_); refine PW.rg rfl fun K hK => ?_; simp (maxSteps := 3000000) (disch := omega) only [go_sem, ↓reduceIte, reduceCtorEq, pappend, plen, hA', rA]; refine hK _ _ ?_; clear hK K
        have hpw2 : 2 ^ j = 2 ^ j := rfl
        have hsh := fun k' => pshl1_64 k' j (by omega)
        generalize 2 ^ j = m at *
        (repeat refine PW.seq ?_); refine PW.rg rfl fun K hK => ?_; simp (maxSteps := 3000000) (disch := omega) only [go_sem, ↓reduceIte, reduceCtorEq, pappend, plen, hsh, hsum]; refine hK _ _ ?_; clear hK K
        refine PW.ret ⟨.tup [.int .i64 ((m + w - 1 : Nat) : Int), .int .i64 0], by simp (maxSteps := 3000000) (disch := omega) only [go_sem, ↓reduceIte, reduceCtorEq, pappend, plen, presults, presult, List.mapM_cons, List.mapM_nil, Option.pure_def, Option.bind_eq_bind, Option.bind_some, Array.toList], ?_⟩
        refine Fin.cut (K := [rA p n (a + (2 * j + 1))]) ?_ (by simp) (hsc_rA _ _ _ _ _) (.id (tup2_sc _ _ _))
        rw [List.set_append_left _ _ hi]; rfl
    · have h00 : ubit p (a + j) = 0 := by omega
      rw [h00]
      (repeat refine PW.seq ?_); refine PW.rg rfl fun K hK => ?_; simp (maxSteps := 3000000) (disch := omega) only [go_sem, ↓reduceIte, reduceCtorEq, pappend, plen]; refine hK _ _ ?_; clear hK K
      (repeat refine PW.seq ?_); refine PW.cond (t := _) rfl (fun h => ?_) (fun h => ?_)
      · cases h
      refine PW.skip ?_
      have hzs : zrs p n (16 - j) (a + j) = zrs p n (16 - (j + 1)) (a + (j + 1)) + 1 := by
        rw [show 16 - j = (16 - (j + 1)) + 1 by omega, zrs_step (by omega) h00]; rfl
      by_cases h15 : j = 15
      · have hr : tkU p n a = .er 2 a := by
          subst h15
          unfold tkU; rw [if_pos (by rw [hz, hzs]; rfl)]
        have d : ((j : Int) == 15) = true := by simp [h15]
        (repeat refine PW.seq ?_); refine PW.rg rfl fun K hK => ?_; simp (maxSteps := 3000000) (disch := omega) only [go_sem, ↓reduceIte, reduceCtorEq, pappend, plen, d]; refine hK _ _ ?_; clear hK K
        (repeat refine PW.seq ?_); refine PW.cond (t := _) rfl (fun h => ?_) (fun h => ?_)
        rotate_left
        · cases h
        (repeat refine PW.seq ?_); refine PW.rg rfl fun K hK => ?_; simp (maxSteps := 3000000) (disch := omega) only [go_sem, ↓reduceIte, reduceCtorEq, pappend, plen]; refine hK _ _ ?_; clear hK K
        refine PW.ret ⟨.tup [.int .i64 0, .int .i64 3], by simp (maxSteps := 3000000) (disch := omega) only [go_sem, ↓reduceIte, reduceCtorEq, pappend, plen, presults, presult, List.mapM_cons, List.mapM_nil, Option.pure_def, Option.bind_eq_bind, Option.bind_some, Array.toList], ?_⟩
        rw [hr]
        exact Fin.cut (show _ = H.set i (rA p n a) ++ [_] by rw [hself]) (by simp) (hsc_rA _ _ _ _ _) (.id (tup2_sc _ _ _))
      · have d : ((j : Int) == 15) = false := by
          rw [beq_eq_false_iff_ne]; omega
        (repeat refine PW.seq ?_); refine PW.rg rfl fun K hK => ?_; simp (maxSteps := 3000000) (disch := omega) only [go_sem, ↓reduceIte, reduceCtorEq, pappend, plen, d]; refine hK _ _ ?_; clear hK K
        (repeat refine PW.seq ?_); refine PW.cond (t := _) rfl (fun h => ?_) (fun h => ?_)
        · cases h
        refine PW.skip ?_
        (repeat refine PW.seq ?_); refine PW.rg rfl fun K hK => ?_; simp (maxSteps := 3000000) (disch := omega) only [go_sem, ↓reduceIte, reduceCtorEq, pappend, plen]; refine hK _ _ ?_; clear hK K
        exact PL.at [0, 4, 5] (ih (16 - (j + 1)) (by omega) (j + 1) (by omega) (by omega) (by omega) rfl) rfl rfl

theorem tks_ok (i : Nat) (p : List UInt8) (n a : Nat) (H : Heap) (hA : H[i]? = some (rA p n a)) (ha : a ≤ n) (hn : n ≤ 8 * p.length) (hp : p.length ≤ 100000000) :
    CallOk Try.prog 96 [.ptr i 0 0] H (rvS (tkS p n a)) (H.set i (rA p n (tkS p n a).at)) := by
  have t := tku_ok i p n a H hA ha hn hp
  unfold tkS
  cases hu : tkU p n a with
  | er e a1 =>
    rw [hu] at t
    have he := (tkU_e hu).2
    have d : ((e : Int) + 1 != 0) = true := by simp; omega
    simp only [Rr.bind, rvU, rvS, Rr.at] at t ⊢
    generalize H.set i (rA p n a1) = Hz at *
    refine CallOk.body (F0 := [(0, .ptr i 0 0)]) Try.func96 rfl Try.ntmps96 Try.results96 rfl (by kernel_rfl) rfl ?_
    (repeat refine PW.seq ?_); refine PW.rg rfl fun K hK => ?_; simp (maxSteps := 3000000) (disch := omega) only [go_sem, ↓reduceIte, reduceCtorEq, pappend, plen]; refine hK _ _ ?_; clear hK K
    (repeat refine PW.seq ?_); refine PW.rg rfl fun K hK => ?_; simp (maxSteps := 3000000) (disch := omega) only [go_sem, ↓reduceIte, reduceCtorEq, pappend, plen]; refine VCx.call (t) rfl ?_; simp (maxSteps := 3000000) (disch := omega) only [go_sem, ↓reduceIte, reduceCtorEq, pappend, plen]; refine hK _ _ ?_; clear hK K
    (repeat refine PW.seq ?_); refine PW.rg rfl fun K hK => ?_; simp (maxSteps := 3000000) (disch := omega) only [go_sem, ↓reduceIte, reduceCtorEq, pappend, plen, d]; refine hK _ _ ?_; clear hK K
    (repeat refine PW.seq ?_); refine PW.cond (t := _) rfl (fun h => ?_) (fun h => ?_)
    rotate_left
    · cases h
    (repeat refine PW.seq ?_); refine PW.rg rfl fun K hK => ?_; simp (maxSteps := 3000000) (disch := omega) only [go_sem, ↓reduceIte, reduceCtorEq, pappend, plen]; refine hK _ _ ?_; clear hK K
    exact PW.ret ⟨_, rfl, Fin.now⟩
  | ok w a1 =>
    rw [hu] at t
    have hb := (tkU_b hu ha).1
    simp only [Rr.bind, rvU, rvS, Rr.at] at t ⊢
    generalize H.set i (rA p n a1) = Hz at *
    have hm : (w : Int).tmod 2 = ((w % 2 : Nat) : Int) := tmodN w 2
    refine CallOk.body (F0 := [(0, .ptr i 0 0)]) Try.func96 rfl Try.ntmps96 Try.results96 rfl (by kernel_rfl) rfl ?_
    (repeat refine PW.seq ?_); refine PW.rg rfl fun K hK => ?_; simp (maxSteps := 3000000) (disch := omega) only [go_sem, ↓reduceIte, reduceCtorEq, pappend, plen]; refine hK _ _ ?_; clear hK K
    (repeat refine PW.seq ?_); refine PW.rg rfl fun K hK => ?_; simp (maxSteps := 3000000) (disch := omega) only [go_sem, ↓reduceIte, reduceCtorEq, pappend, plen]; refine VCx.call (t) rfl ?_; simp (maxSteps := 3000000) (disch := omega) only [go_sem, ↓reduceIte, reduceCtorEq, pappend, plen]; refine hK _ _ ?_; clear hK K
    (repeat refine PW.seq ?_); refine PW.rg rfl fun K hK => ?_; simp (maxSteps := 3000000) (disch := omega) only [go_sem, ↓reduceIte, reduceCtorEq, pappend, plen]; refine hK _ _ ?_; clear hK K
    (repeat refine PW.seq ?_); refine PW.cond (t := _) rfl (fun h => ?_) (fun h => ?_)
    · cases h
    refine PW.skip ?_
    by_cases h2 : w % 2 = 1
    · have hus : usg w = (((w + 1) / 2 : Nat) : Int) := by unfold usg; rw [if_pos h2]
      rw [hus]
      have e1 : (w : Int) + 1 = ((w + 1 : Nat) : Int) := by omega
      have e2 : (((w + 1 : Nat) : Int)).tdiv 2 = (((w + 1) / 2 : Nat) : Int) := tdivN _ 2
      (repeat refine PW.seq ?_); refine PW.rg rfl fun K hK => ?_; simp (maxSteps := 3000000) (disch := omega) only [go_sem, ↓reduceIte, reduceCtorEq, pappend, plen, hm, h2]; refine hK _ _ ?_; clear hK K
      (repeat refine PW.seq ?_); refine PW.cond (t := _) rfl (fun h => ?_) (fun h => ?_)
      rotate_left
      · cases h
      (repeat refine PW.seq ?_); refine PW.rg rfl fun K hK => ?_; simp (maxSteps := 3000000) (disch := omega) only [go_sem, ↓reduceIte, reduceCtorEq, pappend, plen, e1, e2]; refine hK _ _ ?_; clear hK K
      exact PW.ret ⟨_, rfl, Fin.now⟩
    · have h3 : w % 2 = 0 := by omega
      have hus : usg w = -((w / 2 : Nat) : Int) := by unfold usg; rw [if_neg h2]
      rw [hus]
      have e2 : (-(w : Int)).tdiv 2 = -((w / 2 : Nat) : Int) := by rw [Int.neg_tdiv]; rfl
      (repeat refine PW.seq ?_); refine PW.rg rfl fun K hK => ?_; simp (maxSteps := 3000000) (disch := omega) only [go_sem, ↓reduceIte, reduceCtorEq, pappend, plen, hm, h3]; refine hK _ _ ?_; clear hK K
      (repeat refine PW.seq ?_); refine PW.cond (t := _) rfl (fun h => ?_) (fun h => ?_)
      · cases h
      refine PW.skip ?_
      (repeat refine PW.seq ?_); refine PW.rg rfl fun K hK => ?_; simp (maxSteps := 3000000) (disch := omega) only [go_sem, ↓reduceIte, reduceCtorEq, pappend, plen, Int.zero_sub, e2]; refine hK _ _ ?_; clear hK K
      exact PW.ret ⟨_, rfl, Fin.now⟩

end Go.Proofs.Ytcabpncdgagihaa.Sc
