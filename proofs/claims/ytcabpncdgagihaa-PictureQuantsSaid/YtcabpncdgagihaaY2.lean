/-
  THE STATEMENT PictureQuantsSaid, PROVED (from the contract 'law_quants').
-/
import Derived.Test.YtcabpncdgagihaaY1
import Derived.Test.YtcabpncdgagihaaPb
import Derived.Test.YtcabpncdgagihaaLp
namespace Go.Proofs.Ytcabpncdgagihaa.Sc
set_option linter.all false
set_option linter.unusedVariables false
set_option linter.unusedSimpArgs false
open Pm Ty Go.RowKit

def alc (m : Mb) : Mb := { m with ca := true, cb := true, cc := true, cd := true, ce := true, cf := true }
def tkBd (c : Cx) (q : List UInt8) (n : Nat) (m : Mb) (s : St) (a : Nat) : Rr (Mb × St) := (tkCh c q n true m s a).bind fun z a3 => (tkCo q n true z.1 a3).bind fun m a4 => tkLv q n 6 m z.2 a4
theorem setCd_kk (m : Mb) (n : Nat) (b : Bool) : (setCd m n b).k = m.k := by
  unfold setCd
  repeat' split
  all_goals rfl
theorem mbc_ac (m : Mb) : List.take 18 (mbc m) ++ .bool true :: .bool true :: .bool true :: .bool true :: .bool true :: .bool true :: List.drop 24 (mbc m) = mbc (alc m) := rfl
theorem mbc_cg (m : Mb) (k : Nat) (hk : k < 6) : (mbc m)[18 + k]? = some (.bool (flagAt (cdl m) k)) := by
  have : k = 0 ∨ k = 1 ∨ k = 2 ∨ k = 3 ∨ k = 4 ∨ k = 5 := by omega
  rcases this with rfl | rfl | rfl | rfl | rfl | rfl <;> rfl
theorem stc_q (s : St) : (stc s)[0]? = some (.int .i64 s.q) := rfl
theorem stc_sq (s : St) (x : Int) : (stc s).set 0 (.int .i64 x) = stc { s with q := x } := rfl

theorem tkIn_b {q : List UInt8} {n : Nat} {m : Mb} {s : St} {k a : Nat} {y : Mb × St} {a1 : Nat} (h : tkIn q n m s k a = .ok y a1) (ha : a ≤ n) (hml : m.lv.length = 384) (hk : k < 6) (hs : dcR s) : a1 ≤ n ∧ y.1.lv.length = 384 ∧ y.1.k = m.k ∧ dcR y.2 := by
  unfold tkIn at h
  cases h1 : tkD q n (dcS s (k - 3)) 4095 a with
  | er e a2 => rw [h1] at h; cases h
  | ok d a2 =>
    have b1 := tkD_b h1 ha
    rw [h1, Rr.bind_ok] at h
    cases h2 : tkBl q n 1 a2 with
    | er e a3 => rw [h2] at h; cases h
    | ok l a3 =>
      have b2 := tkB_b _ _ _ _ h2 b1.2.2
      rw [h2, Rr.bind_ok] at h
      injection h with e1 e2
      subst e1 e2
      exact ⟨b2.2.1, setLv_len m k _ hk (by rw [List.length_set, b2.2.2]; simp [z64]) hml, rfl, dcR_set hs (k - 3) (by omega)⟩

section
variable (H : Heap) (i j v : Nat) (q : List UInt8) (n : Nat) (X : Heap) (c : Cx) (hi : i < H.length) (hB : H[j]? = some (rB q v)) (hne : i ≠ j) (hX : X.length = 4) (hn : n ≤ 8 * q.length) (hq : q.length ≤ 100000000)
include hi hB hne hX hn hq
set_option maxHeartbeats 8000000 in
theorem body_ref (m : Mb) (s : St) (a : Nat) (hml : m.lv.length = 384) (hs : dcR s) (hsq : 1 ≤ s.q ∧ s.q ≤ 31) (ha : a ≤ n) (hk : m.k = 1 ∨ m.k = 2) : CallEx Try.prog 126 [.ptr i 0 0, .agg (cxc c), .ptr (H.length + 4) 1 0, .ptr (H.length + 5) 1 0] (uG H i j v n a X (mW m) (sB s) []) (prtU H i j v n X (tkBd c q n (alc m) s a)) := by
  have hj := (List.getElem?_eq_some_iff.1 hB).1
  have g6 := fun a B4 B5 K B => uG_6 H i j v n a X B4 B5 K hX B
  have g5 := fun a B4 B5 K => uG_5 H i j v n a X B4 B5 K hX
  have g4 := fun a B4 B5 K => uG_4 H i j v n a X B4 B5 K hX
  have s5 := fun a B4 B5 K B => uG_s5 H i j v n a X B4 B5 K hX B
  have s4 := fun a B4 B5 K B => uG_s4 H i j v n a X B4 B5 K hX B
  have gi := fun a B4 B5 K => uG_i H i j v n a X B4 B5 K hi
  have gj := fun a B4 B5 K => uG_j H i j v n a X B4 B5 K hB hne
  have si := fun a B4 B5 K a' => uG_si H i j v n a X B4 B5 K hi a'
  have c1 := cxc_cell c
  have l1 : (cxc c).length = 4 := rfl
  have tk1 : List.take 4 (cxc c) = cxc c := rfl
  have hlen := uG_len H i j v n a X (mW m) (sB s) [] hX
  have bo := fun K => bcx_ref c K
  have hzl : z64.length = 64 := by simp [z64]
  generalize hres : tkBd c q n (alc m) s a = res
  unfold tkBd tkCh at hres
  rw [if_pos rfl] at hres
  refine CallEx.body (F0 := [(0, .ptr i 0 0), (1, .agg (cxc c)), (2, .ptr (H.length + 4) 1 0), (3, .ptr (H.length + 5) 1 0)]) Try.func126 rfl Try.ntmps126 Try.results126 rfl (by kernel_rfl) rfl ?_
  (repeat refine PW.seq ?_); refine PW.rg rfl fun K hK => ?_; simp (maxSteps := 3000000) (disch := omega) only [go_sem, ↓reduceIte, reduceCtorEq, pappend, plen, c1]; refine hK _ _ ?_; clear hK K
  refine PW.at [0, 2, 3, 5] (F1 := [(0, .ptr i 0 0), (2, .ptr (H.length + 4) 1 0), (3, .ptr (H.length + 5) 1 0), (5, .ptr (H.length + 6) 0 0)]) (H1 := uG H i j v n a X (mW m) (sB s) [⟨23, 0, cxc c⟩]) ?_ (by simp [kp, slot, Nat.beq, hlen]) (uG_ext _ _ _ _ _ _ _ _ _ _ _)
  (repeat refine PW.seq ?_); refine PW.rg rfl fun K hK => ?_; simp (maxSteps := 3000000) (disch := omega) only [go_sem, ↓reduceIte, reduceCtorEq, pappend, plen]; refine hK _ _ ?_; clear hK K
  clear hlen
  suffices hrest : ∀ (m : Mb) (a : Nat), m.lv.length = 384 → (m.k = 1 ∨ m.k = 2) → a ≤ n → (((tkS q n a).bind fun d a2 => if vqB (s.q + d) then Rr.ok ({ alc m with dl := d }, { s with q := s.q + d }) a2 else .er 2 a2).bind fun z a3 => (tkCo q n true z.1 a3).bind fun m a4 => tkLv q n 6 m z.2 a4) = res → PW Try.prog _ _ [(0, .ptr i 0 0), (2, .ptr (H.length + 4) 1 0), (3, .ptr (H.length + 5) 1 0), (5, .ptr (H.length + 6) 0 0)] (uG H i j v n a X (mW m) (sB s) [⟨23, 0, cxc c⟩]) _ by
    have hlm := mbc_len m hml
    (repeat refine PW.seq ?_); refine PW.rg rfl fun K hK => ?_; simp (maxSteps := 3000000) (disch := omega) only [go_sem, ↓reduceIte, reduceCtorEq, pappend, plen, g6, tk1, l1]; refine VCx.call (bo _) rfl ?_; simp (maxSteps := 3000000) (disch := omega) only [go_sem, ↓reduceIte, reduceCtorEq, pappend, plen, g6, tk1, l1]; refine hK _ _ ?_; clear hK K
    cases hbv : bcx c with
    | false =>
      rw [hbv, if_neg (by decide), Rr.bind_ok] at hres
      (repeat refine PW.seq ?_); refine PW.cond (t := _) rfl (fun h => ?_) (fun h => ?_)
      · cases h
      refine PW.skip ?_
      exact PW.at [0, 2, 3, 5] (hrest m a hml hk ha hres) rfl rfl
    | true =>
      rw [hbv, if_pos rfl] at hres
      have bt := bit_ref i j v q n a _ (gi a (mW m) (sB s) [⟨23, 0, cxc c⟩]) (gj _ _ _ _) hne ha hn hq
      rw [si] at bt
      (repeat refine PW.seq ?_); refine PW.cond (t := _) rfl (fun h => ?_) (fun h => ?_)
      rotate_left
      · cases h
      cases hf : tkF q n a with
      | ok b a1 =>
        obtain ⟨rfl, h2, _⟩ := tkF_b hf
        rw [hf, Rr.bind_ok, Rr.bind_ok] at hres
        rw [hf] at bt
        simp only [rvF, Rr.at] at bt
        (repeat refine PW.seq ?_); refine PW.rg rfl fun K hK => ?_; simp (maxSteps := 3000000) (disch := omega) only [go_sem, ↓reduceIte, reduceCtorEq, pappend, plen]
        refine VCx.call (bt) rfl ?_; simp (maxSteps := 3000000) (disch := omega) only [go_sem, ↓reduceIte, reduceCtorEq, pappend, plen, g4, s4, mW_v, mW_c, mW_e, hlm, mbc_sd, mW_of]; refine hK _ _ ?_; clear hK K
        (repeat refine PW.seq ?_); refine PW.rg rfl fun K hK => ?_; simp (maxSteps := 3000000) (disch := omega) only [go_sem, ↓reduceIte, reduceCtorEq, pappend, plen]; refine hK _ _ ?_; clear hK K
        (repeat refine PW.seq ?_); refine PW.cond (t := _) rfl (fun h => ?_) (fun h => ?_)
        · cases h
        refine PW.skip ?_
        exact PW.at [0, 2, 3, 5] (hrest { m with fd := b } (a + 1) hml hk (by omega) hres) rfl rfl
      | er e a1 =>
        obtain ⟨rfl, rfl, h2⟩ := tkF_e hf
        rw [hf] at bt hres
        simp only [Rr.bind_er] at hres
        simp only [rvF, Rr.at] at bt
        (repeat refine PW.seq ?_); refine PW.rg rfl fun K hK => ?_; simp (maxSteps := 3000000) (disch := omega) only [go_sem, ↓reduceIte, reduceCtorEq, pappend, plen]
        refine VCx.call (bt) rfl ?_; simp (maxSteps := 3000000) (disch := omega) only [go_sem, ↓reduceIte, reduceCtorEq, pappend, plen, g4, s4, mW_v, mW_c, mW_e, hlm, mbc_sd, mW_of]; refine hK _ _ ?_; clear hK K
        (repeat refine PW.seq ?_); refine PW.rg rfl fun K hK => ?_; simp (maxSteps := 3000000) (disch := omega) only [go_sem, ↓reduceIte, reduceCtorEq, pappend, plen]; refine hK _ _ ?_; clear hK K
        (repeat refine PW.seq ?_); refine PW.cond (t := _) rfl (fun h => ?_) (fun h => ?_)
        rotate_left
        · cases h
        (repeat refine PW.seq ?_); refine PW.rg rfl fun K hK => ?_; simp (maxSteps := 3000000) (disch := omega) only [go_sem, ↓reduceIte, reduceCtorEq, pappend, plen]; refine hK _ _ ?_; clear hK K
        refine PW.ret ⟨_, rfl, pu_out hi hj hX ?_⟩
        rw [← hres]
        exact ⟨rfl, a1, { m with fd := false }, s, ha, hml, rfl⟩
  clear hres ha hml hk
  intro m a hml hk ha hres
  have hlm := mbc_len m hml
  have t1 := tksr_ref i j v q n a _ (gi a (mW m) (sB s) [⟨23, 0, cxc c⟩]) (gj _ _ _ _) hne ha hn hq
  rw [si] at t1
  cases h1 : tkS q n a with
  | er e a1 =>
    have he := tkS_e h1
    rw [h1] at t1 hres
    simp only [rvS, Rr.at, Rr.bind_er] at t1 hres
    have d0 : ((e : Int) + 1 != 0) = true := by simp; omega
    (repeat refine PW.seq ?_); refine PW.rg rfl fun K hK => ?_; simp (maxSteps := 3000000) (disch := omega) only [go_sem, ↓reduceIte, reduceCtorEq, pappend, plen]
    refine VCx.call (t1) rfl ?_; simp (maxSteps := 3000000) (disch := omega) only [go_sem, ↓reduceIte, reduceCtorEq, pappend, plen, g4, s4, mW_v, mW_c, mW_e, hlm, mbc_sl, mW_of]; refine hK _ _ ?_; clear hK K
    (repeat refine PW.seq ?_); refine PW.rg rfl fun K hK => ?_; simp (maxSteps := 3000000) (disch := omega) only [go_sem, ↓reduceIte, reduceCtorEq, pappend, plen, d0]; refine hK _ _ ?_; clear hK K
    (repeat refine PW.seq ?_); refine PW.cond (t := _) rfl (fun h => ?_) (fun h => ?_)
    rotate_left
    · cases h
    (repeat refine PW.seq ?_); refine PW.rg rfl fun K hK => ?_; simp (maxSteps := 3000000) (disch := omega) only [go_sem, ↓reduceIte, reduceCtorEq, pappend, plen]; refine hK _ _ ?_; clear hK K
    refine PW.ret ⟨_, rfl, pu_out hi hj hX ?_⟩
    rw [← hres]
    exact ⟨rfl, a1, { m with dl := 0 }, s, by omega, hml, rfl⟩
  | ok d a1 =>
    have hb := tkS_b h1 ha
    rw [h1] at t1 hres
    simp only [rvS, Rr.at] at t1
    rw [Rr.bind_ok] at hres
    (repeat refine PW.seq ?_); refine PW.rg rfl fun K hK => ?_; simp (maxSteps := 3000000) (disch := omega) only [go_sem, ↓reduceIte, reduceCtorEq, pappend, plen]
    refine VCx.call (t1) rfl ?_; simp (maxSteps := 3000000) (disch := omega) only [go_sem, ↓reduceIte, reduceCtorEq, pappend, plen, g4, s4, mW_v, mW_c, mW_e, hlm, mbc_sl, mW_of]; refine hK _ _ ?_; clear hK K
    (repeat refine PW.seq ?_); refine PW.rg rfl fun K hK => ?_; simp (maxSteps := 3000000) (disch := omega) only [go_sem, ↓reduceIte, reduceCtorEq, pappend, plen]; refine hK _ _ ?_; clear hK K
    (repeat refine PW.seq ?_); refine PW.cond (t := _) rfl (fun h => ?_) (fun h => ?_)
    · cases h
    refine PW.skip ?_
    have l8 : (stc s).length = 8 := rfl
    (repeat refine PW.seq ?_); refine PW.drawt [] [] mix (by kernel_rfl) fun K hK => ?_; simp (maxSteps := 3000000) (disch := omega) only [go_sem, ↓reduceIte, reduceCtorEq, pappend, plen, g4, g5, s5, sB_v, sB_c, sB_e, mW_v, mW_c, mbc_l, stc_q, stc_sq, l8, sB_of]; refine hK _ _ ?_; clear hK K
    refine PW.at [0, 2, 3, 5] (F1 := [(0, .ptr i 0 0), (2, .ptr (H.length + 4) 1 0), (3, .ptr (H.length + 5) 1 0), (5, .ptr (H.length + 6) 0 0)]) (H1 := uG H i j v n a1 X (mW { m with dl := d }) (sB { s with q := s.q + d }) [⟨23, 0, cxc c⟩]) ?_ rfl rfl
    cases hv : vqB (s.q + d) with
    | false =>
      rw [hv, if_neg (by decide), Rr.bind_er] at hres
      suffices h59 : PW Try.prog _ _ [(0, .ptr i 0 0), (2, .ptr (H.length + 4) 1 0), (3, .ptr (H.length + 5) 1 0), (5, .ptr (H.length + 6) 0 0), (59, .bool true)] (uG H i j v n a1 X (mW { m with dl := d }) (sB { s with q := s.q + d }) [⟨23, 0, cxc c⟩]) _ by
        by_cases g1 : s.q + d < 1
        · have d1 : decide (s.q + d < 1) = true := decide_eq_true g1
          (repeat refine PW.seq ?_); refine PW.rg rfl fun K hK => ?_; simp (maxSteps := 3000000) (disch := omega) only [go_sem, ↓reduceIte, reduceCtorEq, pappend, plen, g5, sB_v, sB_c, stc_q, d1]; refine hK _ _ ?_; clear hK K
          exact PW.at [0, 2, 3, 5, 59] h59 rfl rfl
        · have d1 : decide (s.q + d < 1) = false := decide_eq_false g1
          have d2 : decide (31 < s.q + d) = true := decide_eq_true (by
            unfold vqB at hv
            simp at hv
            omega)
          (repeat refine PW.seq ?_); refine PW.rg rfl fun K hK => ?_; simp (maxSteps := 3000000) (disch := omega) only [go_sem, ↓reduceIte, reduceCtorEq, pappend, plen, g5, sB_v, sB_c, stc_q, d1, d2]; refine hK _ _ ?_; clear hK K
          exact PW.at [0, 2, 3, 5, 59] h59 rfl rfl
      (repeat refine PW.seq ?_); refine PW.cond (t := _) rfl (fun h => ?_) (fun h => ?_)
      rotate_left
      · cases h
      (repeat refine PW.seq ?_); refine PW.rg rfl fun K hK => ?_; simp (maxSteps := 3000000) (disch := omega) only [go_sem, ↓reduceIte, reduceCtorEq, pappend, plen]; refine hK _ _ ?_; clear hK K
      refine PW.ret ⟨_, rfl, pu_out hi hj hX ?_⟩
      rw [← hres]
      exact ⟨rfl, a1, { m with dl := d }, _, hb.2.2, hml, rfl⟩
    | true =>
      rw [hv, if_pos rfl, Rr.bind_ok] at hres
      have hqb : 1 ≤ s.q + d ∧ s.q + d ≤ 31 := by
        unfold vqB at hv
        simp at hv
        omega
      have d1 : decide (s.q + d < 1) = false := decide_eq_false (by omega)
      have d2 : decide (31 < s.q + d) = false := decide_eq_false (by omega)
      (repeat refine PW.seq ?_); refine PW.rg rfl fun K hK => ?_; simp (maxSteps := 3000000) (disch := omega) only [go_sem, ↓reduceIte, reduceCtorEq, pappend, plen, g5, sB_v, sB_c, stc_q, d1, d2]; refine hK _ _ ?_; clear hK K
      (repeat refine PW.seq ?_); refine PW.cond (t := _) rfl (fun h => ?_) (fun h => ?_)
      · cases h
      refine PW.skip ?_
      have hlm1 := mbc_len { m with dl := d } hml
      (repeat refine PW.seq ?_); refine PW.rg rfl fun K hK => ?_; simp (maxSteps := 3000000) (disch := omega) only [go_sem, ↓reduceIte, reduceCtorEq, pappend, plen, g4, s4, mW_v, mW_c, mW_e, hlm1, mbc_ac, mW_of, Nat.reduceAdd]; refine hK _ _ ?_; clear hK K
      have hdc : dcR { s with q := s.q + d } := fun k => hs k
      generalize hs2e : ({ s with q := s.q + d } : St) = s2 at *
      have hM : ({ alc m with dl := d } : Mb) = alc { m with dl := d } := rfl
      rw [hM] at hres
      have hMl : (alc { m with dl := d }).lv.length = 384 := hml
      have hMk : (alc { m with dl := d }).k = 1 ∨ (alc { m with dl := d }).k = 2 := hk
      generalize alc { m with dl := d } = m9 at *
      refine PW.at [0, 2, 3] (F1 := [(0, .ptr i 0 0), (2, .ptr (H.length + 4) 1 0), (3, .ptr (H.length + 5) 1 0)]) (H1 := uG H i j v n a1 X (mW m9) (sB s2) [⟨23, 0, cxc c⟩]) ?_ rfl rfl
      suffices hlv : ∀ (m : Mb) (a : Nat), m.lv.length = 384 → (m.k = 1 ∨ m.k = 2) → a ≤ n → tkLv q n 6 m s2 a = res → PW Try.prog _ _ [(0, .ptr i 0 0), (2, .ptr (H.length + 4) 1 0), (3, .ptr (H.length + 5) 1 0)] (uG H i j v n a X (mW m) (sB s2) [⟨23, 0, cxc c⟩]) _ by
        rcases hMk with e1 | e2
        · have dk : (m9.k == 2) = false := by rw [e1]; rfl
          unfold tkCo at hres
          rw [decide_eq_false (show ¬ m9.k = 2 by omega), Bool.false_and, if_neg (by decide), Rr.bind_ok] at hres
          (repeat refine PW.seq ?_); refine PW.rg rfl fun K hK => ?_; simp (maxSteps := 3000000) (disch := omega) only [go_sem, ↓reduceIte, reduceCtorEq, pappend, plen, g4, mW_v, mW_c, mbc_k, dk]; refine hK _ _ ?_; clear hK K
          (repeat refine PW.seq ?_); refine PW.cond (t := _) rfl (fun h => ?_) (fun h => ?_)
          · cases h
          refine PW.skip ?_
          exact PW.at [0, 2, 3] (hlv m9 a1 hMl (.inl e1) hb.2.2 hres) rfl rfl
        · have dk : (m9.k == 2) = true := by rw [e2]; rfl
          unfold tkCo at hres
          rw [decide_eq_true e2, Bool.true_and, if_pos rfl] at hres
          (repeat refine PW.seq ?_); refine PW.rg rfl fun K hK => ?_; simp (maxSteps := 3000000) (disch := omega) only [go_sem, ↓reduceIte, reduceCtorEq, pappend, plen, g4, mW_v, mW_c, mbc_k, dk]; refine hK _ _ ?_; clear hK K
          (repeat refine PW.seq ?_); refine PW.cond (t := _) rfl (fun h => ?_) (fun h => ?_)
          rotate_left
          · cases h
          (repeat refine PW.seq ?_); refine PW.rg rfl fun K hK => ?_; simp (maxSteps := 3000000) (disch := omega) only [go_sem, ↓reduceIte, reduceCtorEq, pappend, plen]; refine hK _ _ ?_; clear hK K
          (repeat refine PW.seq ?_); refine PW.block (PW.loop ?_)
          suffices hl1 : ∀ (k : Nat) (m1 : Mb) (a1 : Nat), k ≤ 6 → m1.lv.length = 384 → m1.k = 2 → a1 ≤ n → ((tkCf q n (6 - k) m1 a1).bind fun m a4 => tkLv q n 6 m s2 a4) = res → PL Try.prog _ _ [(0, .ptr i 0 0), (2, .ptr (H.length + 4) 1 0), (3, .ptr (H.length + 5) 1 0), (10, .int .i64 (k : Int))] (uG H i j v n a1 X (mW m1) (sB s2) [⟨23, 0, cxc c⟩]) _ by
            exact PL.at [0, 2, 3, 10] (hl1 0 m9 a1 (by omega) hMl e2 hb.2.2 hres) rfl rfl
          clear hres hMl e2 dk t1 h1 hb
          intro k m1 a1 hk6 hml1 hk1 ha1 hres
          induction hdd : 6 - k using Nat.strongRecOn generalizing k m1 a1 with
          | _ dd ih =>
            refine PL.round ?_; (repeat refine PW.seq ?_); refine PW.rg rfl fun K hK => ?_; simp (maxSteps := 3000000) (disch := omega) only [go_sem, ↓reduceIte, reduceCtorEq, pappend, plen]; refine hK _ _ ?_; clear hK K
            have hlm1 := mbc_len m1 hml1
            (repeat refine PW.seq ?_); refine PW.cond (t := _) rfl (fun h => ?_) (fun h => ?_)
            rotate_left
            · have h6 : k = 6 := by have := of_decide_eq_false h; omega
              subst h6
              refine PW.exit ?_
              have co := fun K => cod_ref m1 K hml1
              have ehl : hlM m1 = anyC m1 := by unfold hlM; rw [decide_eq_false (by omega), Bool.false_or]
              have tkm : List.take 408 (mbc m1) = mbc m1 := List.take_of_length_le (by omega)
              rw [ehl] at co
              simp only [Nat.sub_self, tkCf] at hres
              cases hac : anyC m1 with
              | true =>
                rw [hac] at co hres
                rw [if_pos rfl, Rr.bind_ok] at hres
                (repeat refine PW.seq ?_); refine PW.rg rfl fun K hK => ?_; simp (maxSteps := 3000000) (disch := omega) only [go_sem, ↓reduceIte, reduceCtorEq, pappend, plen, g4, mW_v, mW_c, hlm1, tkm]
                refine VCx.call (co _) rfl ?_; simp (maxSteps := 3000000) (disch := omega) only [go_sem, ↓reduceIte, reduceCtorEq, pappend, plen]; refine hK _ _ ?_; clear hK K
                (repeat refine PW.seq ?_); refine PW.cond (t := _) rfl (fun h => ?_) (fun h => ?_)
                · cases h
                refine PW.skip ?_
                exact PW.at [0, 2, 3] (hlv m1 a1 hml1 (.inr hk1) ha1 hres) rfl rfl
              | false =>
                rw [hac] at co hres
                rw [if_neg (by decide), Rr.bind_er] at hres
                (repeat refine PW.seq ?_); refine PW.rg rfl fun K hK => ?_; simp (maxSteps := 3000000) (disch := omega) only [go_sem, ↓reduceIte, reduceCtorEq, pappend, plen, g4, mW_v, mW_c, hlm1, tkm]
                refine VCx.call (co _) rfl ?_; simp (maxSteps := 3000000) (disch := omega) only [go_sem, ↓reduceIte, reduceCtorEq, pappend, plen]; refine hK _ _ ?_; clear hK K
                (repeat refine PW.seq ?_); refine PW.cond (t := _) rfl (fun h => ?_) (fun h => ?_)
                rotate_left
                · cases h
                (repeat refine PW.seq ?_); refine PW.rg rfl fun K hK => ?_; simp (maxSteps := 3000000) (disch := omega) only [go_sem, ↓reduceIte, reduceCtorEq, pappend, plen]; refine hK _ _ ?_; clear hK K
                refine PW.ret ⟨_, rfl, pu_out hi hj hX ?_⟩
                rw [← hres]
                exact ⟨rfl, a1, m1, s2, ha1, hml1, rfl⟩
            have h6 : k < 6 := by have := of_decide_eq_true h; omega
            obtain ⟨n', hn'⟩ : ∃ n', 6 - k = n' + 1 := ⟨5 - k, by omega⟩
            have hkn : 5 - n' = k := by omega
            rw [hn', tkCf, hkn, Rr.bind_bind] at hres
            have hnx := fun m1 a1 => ih (6 - (k + 1)) (by omega) (k + 1) m1 a1 (by omega)
            rw [show 6 - (k + 1) = n' by omega] at hnx
            have hst := fun b => mbc_sc m1 k b h6
            refine PW.skip ?_; (repeat refine PW.seq ?_); refine PW.block ?_
            (repeat refine PW.seq ?_); refine PW.drawi [i, H.length + 4] [(0, [0]), (2, [1]), (74, [1]), (76, [0]), (80, [1]), (81, [1]), (82, [1])] [] [] mix (by kernel_rfl) (by simp <;> omega) fun K hK => ?_
            simp (maxSteps := 3000000) (disch := omega) only [go_sem, ↓reduceIte, reduceCtorEq, pappend, plen]
            refine VCj.wr1 (gi a1 (mW m1) (sB s2) [⟨23, 0, cxc c⟩]) (fun L hL hG => bit_ref i j v q n a1 L hL ((hG.out _ (by simp; omega)).trans (gj _ _ _ _)) hne ha1 hn hq) (by simp (maxSteps := 3000000) (disch := omega) only [go_sem, ↓reduceIte, reduceCtorEq, pappend, plen]) (.inl rfl) rfl ?_
            rw [si]
            cases hf : tkF q n a1 with
            | ok b a2 =>
              obtain ⟨rfl, h2, _⟩ := tkF_b hf
              rw [hf, Rr.bind_ok] at hres
              simp only [rvF, Rr.at]
              simp (maxSteps := 3000000) (disch := omega) only [go_sem, ↓reduceIte, reduceCtorEq, pappend, plen, g4, s4, mW_v, mW_c, mW_e, hlm1, hst, mW_of]
              refine hK _ _ ?_; clear hK K
              (repeat refine PW.seq ?_); refine PW.rg rfl fun K hK => ?_; simp (maxSteps := 3000000) (disch := omega) only [go_sem, ↓reduceIte, reduceCtorEq, pappend, plen]; refine hK _ _ ?_; clear hK K
              (repeat refine PW.seq ?_); refine PW.cond (t := _) rfl (fun h => ?_) (fun h => ?_)
              · cases h
              refine PW.skip ?_
              (repeat refine PW.seq ?_); refine PW.rg rfl fun K hK => ?_; simp (maxSteps := 3000000) (disch := omega) only [go_sem, ↓reduceIte, reduceCtorEq, pappend, plen]; refine hK _ _ ?_; clear hK K
              exact PL.at [0, 2, 3, 10] (hnx (setCd m1 k b) (a1 + 1) (by rw [setCd_lv]; exact hml1) (by rw [setCd_kk]; exact hk1) (by omega) hres rfl) rfl rfl
            | er e a2 =>
              obtain ⟨rfl, rfl, h2⟩ := tkF_e hf
              rw [hf, Rr.bind_er] at hres
              simp only [rvF, Rr.at]
              simp (maxSteps := 3000000) (disch := omega) only [go_sem, ↓reduceIte, reduceCtorEq, pappend, plen, g4, s4, mW_v, mW_c, mW_e, hlm1, hst, mW_of]
              refine hK _ _ ?_; clear hK K
              (repeat refine PW.seq ?_); refine PW.rg rfl fun K hK => ?_; simp (maxSteps := 3000000) (disch := omega) only [go_sem, ↓reduceIte, reduceCtorEq, pappend, plen]; refine hK _ _ ?_; clear hK K
              (repeat refine PW.seq ?_); refine PW.cond (t := _) rfl (fun h => ?_) (fun h => ?_)
              rotate_left
              · cases h
              (repeat refine PW.seq ?_); refine PW.rg rfl fun K hK => ?_; simp (maxSteps := 3000000) (disch := omega) only [go_sem, ↓reduceIte, reduceCtorEq, pappend, plen]; refine hK _ _ ?_; clear hK K
              refine PW.ret ⟨_, rfl, pu_out hi hj hX ?_⟩
              rw [← hres]
              exact ⟨rfl, a2, setCd m1 k false, s2, ha1, by rw [setCd_lv]; exact hml1, rfl⟩
      clear hres hMl hMk t1 h1 hlm1
      intro m a hml hk ha hres
      (repeat refine PW.seq ?_); refine PW.rg rfl fun K hK => ?_; simp (maxSteps := 3000000) (disch := omega) only [go_sem, ↓reduceIte, reduceCtorEq, pappend, plen]; refine hK _ _ ?_; clear hK K
      (repeat refine PW.seq ?_); refine PW.block (PW.loop ?_)
      suffices hl1 : ∀ (k : Nat) (m1 : Mb) (s1 : St) (a1 : Nat), k ≤ 6 → m1.lv.length = 384 → dcR s1 → (m1.k = 1 ∨ m1.k = 2) → a1 ≤ n → tkLv q n (6 - k) m1 s1 a1 = res → PL Try.prog _ _ [(0, .ptr i 0 0), (2, .ptr (H.length + 4) 1 0), (3, .ptr (H.length + 5) 1 0), (11, .int .i64 (k : Int))] (uG H i j v n a1 X (mW m1) (sB s1) [⟨23, 0, cxc c⟩]) _ by
        exact PL.at [0, 2, 3, 11] (hl1 0 m s2 a (by omega) hml hdc hk ha hres) rfl rfl
      clear hres ha hml hk hdc
      intro k m1 s1 a1 hk6 hml hs1 hk ha hres
      induction hdd : 6 - k using Nat.strongRecOn generalizing k m1 s1 a1 with
      | _ dd ih =>
        refine PL.round ?_; (repeat refine PW.seq ?_); refine PW.rg rfl fun K hK => ?_; simp (maxSteps := 3000000) (disch := omega) only [go_sem, ↓reduceIte, reduceCtorEq, pappend, plen]; refine hK _ _ ?_; clear hK K
        have hlm1 := mbc_len m1 hml
        (repeat refine PW.seq ?_); refine PW.cond (t := _) rfl (fun h => ?_) (fun h => ?_)
        rotate_left
        · have h6 : k = 6 := by have := of_decide_eq_false h; omega
          subst h6
          refine PW.exit ?_
          simp only [Nat.sub_self, tkLv] at hres
          (repeat refine PW.seq ?_); refine PW.rg rfl fun K hK => ?_; simp (maxSteps := 3000000) (disch := omega) only [go_sem, ↓reduceIte, reduceCtorEq, pappend, plen]; refine hK _ _ ?_; clear hK K
          refine PW.ret ⟨_, rfl, pu_out hi hj hX ?_⟩
          rw [← hres]
          exact ⟨rfl, rfl⟩
        have h6 : k < 6 := by have := of_decide_eq_true h; omega
        obtain ⟨n', hn'⟩ : ∃ n', 6 - k = n' + 1 := ⟨5 - k, by omega⟩
        have hkn : 5 - n' = k := by omega
        rw [hn', tkLv, hkn] at hres
        have hnx := fun m1 s1 a1 => ih (6 - (k + 1)) (by omega) (k + 1) m1 s1 a1 (by omega)
        rw [show 6 - (k + 1) = n' by omega] at hnx
        clear ih
        have hgx := mbc_cg m1 k h6
        refine PW.skip ?_; (repeat refine PW.seq ?_); refine PW.block ?_
        (repeat refine PW.seq ?_); refine PW.rg rfl fun K hK => ?_; simp (maxSteps := 3000000) (disch := omega) only [go_sem, ↓reduceIte, reduceCtorEq, pappend, plen, g4, mW_v, mW_c, hgx]; refine hK _ _ ?_; clear hK K
        generalize flagAt (cdl m1) k = fg at *
        cases fg with
        | false =>
          rw [if_neg (by decide)] at hres
          (repeat refine PW.seq ?_); refine PW.cond (t := _) rfl (fun h => ?_) (fun h => ?_)
          rotate_left
          · cases h
          refine PW.exit ?_
          (repeat refine PW.seq ?_); refine PW.rg rfl fun K hK => ?_; simp (maxSteps := 3000000) (disch := omega) only [go_sem, ↓reduceIte, reduceCtorEq, pappend, plen]; refine hK _ _ ?_; clear hK K
          exact PL.at [0, 2, 3, 11] (hnx m1 s1 a1 hml hs1 hk ha hres rfl) rfl rfl
        | true =>
          rw [if_pos rfl] at hres
          (repeat refine PW.seq ?_); refine PW.cond (t := _) rfl (fun h => ?_) (fun h => ?_)
          · cases h
          refine PW.skip ?_
          have hsL := fun m l => mbc_sL m k l
          by_cases hk2 : m1.k = 2
          · rw [if_pos hk2] at hres
            have d1 : (m1.k == 2) = true := by simp [hk2]
            (repeat refine PW.seq ?_); refine PW.rg rfl fun K hK => ?_; simp (maxSteps := 3000000) (disch := omega) only [go_sem, ↓reduceIte, reduceCtorEq, pappend, plen, g4, mW_v, mW_c, mbc_k, d1]; refine hK _ _ ?_; clear hK K
            (repeat refine PW.seq ?_); refine PW.cond (t := _) rfl (fun h => ?_) (fun h => ?_)
            rotate_left
            · cases h
            (repeat refine PW.seq ?_); refine PW.drawi [i, H.length + 4] [(0, [0]), (2, [1]), (108, [1]), (110, [0]), (114, [1]), (115, [1]), (116, [1])] [] [] mix (by kernel_rfl) (by simp <;> omega) fun K hK => ?_
            simp (maxSteps := 3000000) (disch := omega) only [go_sem, ↓reduceIte, reduceCtorEq, pappend, plen]
            refine VCj.wr1 (gi a1 (mW m1) (sB s1) [⟨23, 0, cxc c⟩]) (fun L hL hG => btake_ref i j v q n a1 0 L hL ((hG.out _ (by simp; omega)).trans (gj _ _ _ _)) hne ha hn hq (by omega)) (by simp (maxSteps := 3000000) (disch := omega) only [go_sem, ↓reduceIte, reduceCtorEq, pappend, plen]) (.inl rfl) rfl ?_
            rw [si]
            cases hbk : tkBl q n 0 a1 with
            | er e a2 =>
              have hbe := tkB_e _ _ _ _ hbk ha
              rw [hbk, Rr.bind_er] at hres
              simp only [rvB, Rr.at]
              have hil : (is z64).length = 64 := by rw [is_len, hzl]
              have hic := is_cell z64
              have d9 := setLv_len m1 k z64 h6 hzl hml
              have d0 : ((e : Int) + 1 == 0) = false := by simp; omega
              have d7 : ((e : Int) + 1 != 0) = true := by simp; omega
              generalize hZ : is z64 = Z at *
              simp (maxSteps := 3000000) (disch := omega) only [go_sem, ↓reduceIte, reduceCtorEq, pappend, plen, g4, s4, mW_v, mW_c, mW_e, hlm1, hil, hic]; refine hK _ _ ?_; clear hK K
              rw [← hZ]
              simp only [hsL, mW_of]
              (repeat refine PW.seq ?_); refine PW.rg rfl fun K hK => ?_; simp (maxSteps := 3000000) (disch := omega) only [go_sem, ↓reduceIte, reduceCtorEq, pappend, plen, d0]; refine hK _ _ ?_; clear hK K
              (repeat refine PW.seq ?_); refine PW.cond (t := _) rfl (fun h => ?_) (fun h => ?_)
              · cases h
              refine PW.skip ?_
              (repeat refine PW.seq ?_); refine PW.rg rfl fun K hK => ?_; simp (maxSteps := 3000000) (disch := omega) only [go_sem, ↓reduceIte, reduceCtorEq, pappend, plen, d7]; refine hK _ _ ?_; clear hK K
              (repeat refine PW.seq ?_); refine PW.cond (t := _) rfl (fun h => ?_) (fun h => ?_)
              rotate_left
              · cases h
              (repeat refine PW.seq ?_); refine PW.rg rfl fun K hK => ?_; simp (maxSteps := 3000000) (disch := omega) only [go_sem, ↓reduceIte, reduceCtorEq, pappend, plen]; refine hK _ _ ?_; clear hK K
              refine PW.ret ⟨_, rfl, pu_out hi hj hX ?_⟩
              rw [← hres]
              exact ⟨rfl, a2, setLv m1 k z64, s1, by omega, d9, rfl⟩
            | ok l a2 =>
              have hbo := tkB_b _ _ _ _ hbk ha
              have hll : l.length = 64 := by rw [hbo.2.2, hzl]
              rw [hbk, Rr.bind_ok] at hres
              simp only [rvB, Rr.at]
              have hil : (is l).length = 64 := by rw [is_len, hll]
              have hic := is_cell l
              have d9 := setLv_len m1 k l h6 hll hml
              have hlm9 := mbc_len _ d9
              have hgl := mbc_gL m1 k l h6 hll hml
              have ez := pqZ64 l hll
              simp (maxSteps := 3000000) (disch := omega) only [go_sem, ↓reduceIte, reduceCtorEq, pappend, plen, g4, s4, mW_v, mW_c, mW_e, hlm1, hil, hic]; refine hK _ _ ?_; clear hK K
              simp only [hsL, mW_of]
              by_cases hz : l = z64
              · rw [if_pos hz] at hres
                rw [decide_eq_true hz] at ez
                (repeat refine PW.seq ?_); refine PW.rg rfl fun K hK => ?_; simp (maxSteps := 3000000) (disch := omega) only [go_sem, ↓reduceIte, reduceCtorEq, pappend, plen, g4, mW_v, mW_c, hlm9, hgl, hil, ez]; refine hK _ _ ?_; clear hK K
                (repeat refine PW.seq ?_); refine PW.cond (t := _) rfl (fun h => ?_) (fun h => ?_)
                rotate_left
                · cases h
                (repeat refine PW.seq ?_); refine PW.rg rfl fun K hK => ?_; simp (maxSteps := 3000000) (disch := omega) only [go_sem, ↓reduceIte, reduceCtorEq, pappend, plen]; refine hK _ _ ?_; clear hK K
                (repeat refine PW.seq ?_); refine PW.rg rfl fun K hK => ?_; simp (maxSteps := 3000000) (disch := omega) only [go_sem, ↓reduceIte, reduceCtorEq, pappend, plen]; refine hK _ _ ?_; clear hK K
                (repeat refine PW.seq ?_); refine PW.cond (t := _) rfl (fun h => ?_) (fun h => ?_)
                rotate_left
                · cases h
                (repeat refine PW.seq ?_); refine PW.rg rfl fun K hK => ?_; simp (maxSteps := 3000000) (disch := omega) only [go_sem, ↓reduceIte, reduceCtorEq, pappend, plen]; refine hK _ _ ?_; clear hK K
                refine PW.ret ⟨_, rfl, pu_out hi hj hX ?_⟩
                rw [← hres]
                exact ⟨rfl, a2, setLv m1 k l, s1, hbo.2.1, d9, rfl⟩
              · rw [if_neg hz] at hres
                rw [decide_eq_false hz] at ez
                (repeat refine PW.seq ?_); refine PW.rg rfl fun K hK => ?_; simp (maxSteps := 3000000) (disch := omega) only [go_sem, ↓reduceIte, reduceCtorEq, pappend, plen, g4, mW_v, mW_c, hlm9, hgl, hil, ez]; refine hK _ _ ?_; clear hK K
                (repeat refine PW.seq ?_); refine PW.cond (t := _) rfl (fun h => ?_) (fun h => ?_)
                · cases h
                refine PW.skip ?_
                (repeat refine PW.seq ?_); refine PW.rg rfl fun K hK => ?_; simp (maxSteps := 3000000) (disch := omega) only [go_sem, ↓reduceIte, reduceCtorEq, pappend, plen]; refine hK _ _ ?_; clear hK K
                (repeat refine PW.seq ?_); refine PW.cond (t := _) rfl (fun h => ?_) (fun h => ?_)
                · cases h
                refine PW.skip ?_
                (repeat refine PW.seq ?_); refine PW.rg rfl fun K hK => ?_; simp (maxSteps := 3000000) (disch := omega) only [go_sem, ↓reduceIte, reduceCtorEq, pappend, plen]; refine hK _ _ ?_; clear hK K
                exact PL.at [0, 2, 3, 11] (hnx (setLv m1 k l) s1 a2 d9 hs1 hk hbo.2.1 hres rfl) rfl rfl
          · rw [if_neg hk2] at hres
            have d1 : (m1.k == 2) = false := by simp [hk2]
            have hin : ((tkIn q n m1 s1 k a1).bind fun y a => tkLv q n n' y.1 y.2 a) = res := by
              rw [← hres]
              unfold tkIn
              rw [Rr.bind_bind]
              congr 1
              funext d a
              rw [Rr.bind_bind]
              rfl
            have ir := intra_ref H i j v q n X [⟨23, 0, cxc c⟩] hi hB hne hX hn hq m1 s1 k a1 hml hs1 ha h6
            (repeat refine PW.seq ?_); refine PW.rg rfl fun K hK => ?_; simp (maxSteps := 3000000) (disch := omega) only [go_sem, ↓reduceIte, reduceCtorEq, pappend, plen, g4, mW_v, mW_c, mbc_k, d1]; refine hK _ _ ?_; clear hK K
            (repeat refine PW.seq ?_); refine PW.cond (t := _) rfl (fun h => ?_) (fun h => ?_)
            · cases h
            (repeat refine PW.seq ?_); refine PW.rg rfl fun K hK => ?_; simp (maxSteps := 3000000) (disch := omega) only [go_sem, ↓reduceIte, reduceCtorEq, pappend, plen]
            refine VCx.callR ir rfl fun w H' hR => ?_
            cases hti : tkIn q n m1 s1 k a1 with
            | er e a2 =>
              rw [hti] at hR hin
              obtain ⟨rfl, a4, m4, s4', h1, h2, rfl⟩ := hR
              rw [Rr.bind_er] at hin
              have d7 : ((e : Int) + 1 != 0) = true := by simp; omega
              simp (maxSteps := 3000000) (disch := omega) only [go_sem, ↓reduceIte, reduceCtorEq, pappend, plen, ecd]; refine hK _ _ ?_; clear hK K
              (repeat refine PW.seq ?_); refine PW.rg rfl fun K hK => ?_; simp (maxSteps := 3000000) (disch := omega) only [go_sem, ↓reduceIte, reduceCtorEq, pappend, plen, d7]; refine hK _ _ ?_; clear hK K
              (repeat refine PW.seq ?_); refine PW.cond (t := _) rfl (fun h => ?_) (fun h => ?_)
              rotate_left
              · cases h
              (repeat refine PW.seq ?_); refine PW.rg rfl fun K hK => ?_; simp (maxSteps := 3000000) (disch := omega) only [go_sem, ↓reduceIte, reduceCtorEq, pappend, plen]; refine hK _ _ ?_; clear hK K
              refine PW.ret ⟨_, rfl, pu_out hi hj hX ?_⟩
              rw [← hin]
              exact ⟨rfl, a4, m4, s4', h1, h2, rfl⟩
            | ok y a2 =>
              obtain ⟨b1, b2, b3, b4⟩ := tkIn_b hti ha hml h6 hs1
              rw [hti] at hR hin
              obtain ⟨rfl, rfl⟩ := hR
              rw [Rr.bind_ok] at hin
              simp (maxSteps := 3000000) (disch := omega) only [go_sem, ↓reduceIte, reduceCtorEq, pappend, plen]; refine hK _ _ ?_; clear hK K
              (repeat refine PW.seq ?_); refine PW.rg rfl fun K hK => ?_; simp (maxSteps := 3000000) (disch := omega) only [go_sem, ↓reduceIte, reduceCtorEq, pappend, plen]; refine hK _ _ ?_; clear hK K
              (repeat refine PW.seq ?_); refine PW.cond (t := _) rfl (fun h => ?_) (fun h => ?_)
              · cases h
              refine PW.skip ?_
              (repeat refine PW.seq ?_); refine PW.rg rfl fun K hK => ?_; simp (maxSteps := 3000000) (disch := omega) only [go_sem, ↓reduceIte, reduceCtorEq, pappend, plen]; refine hK _ _ ?_; clear hK K
              exact PL.at [0, 2, 3, 11] (hnx y.1 y.2 a2 b2 b4 (by rw [b3]; exact hk) b1 hin rfl) rfl rfl
end

end Go.Proofs.Ytcabpncdgagihaa.Sc

namespace Go.Proofs.Ytcabpncdgagihaa.Sc
set_option linter.all false
set_option linter.unusedVariables false
set_option linter.unusedSimpArgs false
open Pm Ty Go.RowKit

/-- What Take returns: for a valid context and state. -/
def mtkA (c : Cx) (s : St) (q : List UInt8) (n a : Nat) : Rr (Mb × St) := if vcx c && vstB s then mtk c s q n a else .er 0 a
def rvM : Rr (Mb × St) → PV
  | .ok y _ => .tup [.agg (mbc y.1), .agg (stc y.2), .int .i64 0]
  | .er e _ => .tup [.agg zmv, .agg (stc zSt), ecd e]
def mtkR (H : Heap) (i : Nat) (p : List UInt8) (n : Nat) (x : Rr (Mb × St)) : PV → Heap → Prop := fun v H' => v = rvM x ∧
  match x with
  | .ok _ a => H' = H.set i (rA p n a)
  | .er _ _ => ∃ a, a ≤ n ∧ H' = H.set i (rA p n a)
theorem mbc_sco (k : Nat) (m : Mb) : ∀ x ∈ mbc m, Scoped k x := fun x hx => mbl_sc0 k m x hx
where
  mbl_sc0 (n : Nat) (m : Mb) : ∀ x ∈ mbc m, Scoped n x := fun x hx => by
    simp only [mbc, List.mem_cons] at hx
    rcases hx with rfl | rfl | rfl | rfl | rfl | rfl | rfl | rfl | rfl | rfl | rfl | rfl | rfl | rfl | rfl | rfl | rfl | rfl | rfl | rfl | rfl | rfl | rfl | rfl | hx
    all_goals first | exact .int _ _ | exact .bool _ | exact is_scoped _ _ _ hx
theorem rvM_sc (k : Nat) (x : Rr (Mb × St)) : Scoped k (rvM x) := by
  cases x with
  | ok y a =>
    refine .tup (all_scoped' fun x hx => ?_)
    simp only [List.mem_cons, List.not_mem_nil, or_false] at hx
    rcases hx with rfl | rfl | rfl
    · exact ag_scoped (mbc_sco _ _)
    · exact stc_scoped _ _
    · exact .int _ _
  | er e a =>
    refine .tup (all_scoped' fun x hx => ?_)
    simp only [List.mem_cons, List.not_mem_nil, or_false] at hx
    rcases hx with rfl | rfl | rfl
    · exact ag_scoped (mbc_sco _ _)
    · exact stc_scoped _ _
    · exact .int _ _
theorem zcMb : zcells Try.prog 49 = some zmv := by kernel_rfl
theorem zmv_len : zmv.length = 408 := mbc_len zMb zl384_len
theorem zmv_cell : zmv.all PV.cell = true := mbc_cell zMb
theorem tkCh_b {c : Cx} {p : List UInt8} {n : Nat} {hl : Bool} {m : Mb} {s : St} {a : Nat} {y : Mb × St} {a1 : Nat} (h : tkCh c p n hl m s a = .ok y a1) (ha : a ≤ n) : a1 ≤ n ∧ y.1.lv = m.lv ∧ (s.da = y.2.da ∧ s.db = y.2.db ∧ s.dc = y.2.dc) := by
  unfold tkCh at h
  split at h
  · suffices hr : ∀ (m' : Mb) (a' : Nat), m'.lv = m.lv → a' ≤ n → ((tkS p n a').bind fun d a2 => if vqB (s.q + d) then .ok ({ m' with dl := d }, { s with q := s.q + d }) a2 else .er 2 a2) = .ok y a1 → a1 ≤ n ∧ y.1.lv = m.lv ∧ (s.da = y.2.da ∧ s.db = y.2.db ∧ s.dc = y.2.dc) by
      split at h
      · cases hf : tkF p n a with
        | er e a2 => rw [hf] at h; cases h
        | ok b a2 =>
          have := tkF_b hf
          rw [hf, Rr.bind_ok, Rr.bind_ok] at h
          exact hr { m with fd := b } a2 rfl (by omega) h
      · rw [Rr.bind_ok] at h
        exact hr m a rfl ha h
    intro m' a' hm' ha' h
    cases h1 : tkS p n a' with
    | er e a2 => rw [h1] at h; cases h
    | ok d a2 =>
      have b1 := tkS_b h1 ha'
      rw [h1, Rr.bind_ok] at h
      split at h
      · injection h with e1 e2
        subst e1 e2
        exact ⟨b1.2.2, hm', rfl, rfl, rfl⟩
      · cases h
  · injection h with e1 e2
    subst e1 e2
    exact ⟨ha, rfl, rfl, rfl, rfl⟩
theorem setCd_k (m : Mb) (n : Nat) (b : Bool) : (setCd m n b).k = m.k := by
  unfold setCd
  repeat' split
  all_goals rfl
theorem tkCf_b {p : List UInt8} {n : Nat} : ∀ (r : Nat) (m : Mb) (a : Nat) {m' : Mb} {a1 : Nat}, tkCf p n r m a = .ok m' a1 → a ≤ n → a1 ≤ n ∧ m'.lv = m.lv ∧ m'.k = m.k
  | 0, m, a, m', a1, h, ha => by
    simp only [tkCf] at h
    split at h
    · injection h with e1 e2
      subst e1 e2
      exact ⟨ha, rfl, rfl⟩
    · cases h
  | r + 1, m, a, m', a1, h, ha => by
    simp only [tkCf] at h
    cases hf : tkF p n a with
    | er e a2 => rw [hf] at h; cases h
    | ok b a2 =>
      have hb := tkF_b hf
      rw [hf, Rr.bind_ok] at h
      obtain ⟨c1, c2, c3⟩ := tkCf_b r _ _ h (by omega)
      exact ⟨c1, by rw [c2, setCd_lv], by rw [c3, setCd_k]⟩
theorem tkCo_b {p : List UInt8} {n : Nat} {hl : Bool} {m : Mb} {a : Nat} {m' : Mb} {a1 : Nat} (h : tkCo p n hl m a = .ok m' a1) (ha : a ≤ n) : a1 ≤ n ∧ m'.lv = m.lv ∧ m'.k = m.k := by
  unfold tkCo at h
  split at h
  · exact tkCf_b _ _ _ h ha
  · injection h with e1 e2
    subst e1 e2
    exact ⟨ha, rfl, rfl⟩
theorem tkDs_b {c : Cx} {p : List UInt8} {n : Nat} : ∀ (r d : Nat) (m : Mb) (s : St) (a : Nat) {y : Mb × St} {a1 : Nat}, tkDs c p n r d m s a = .ok y a1 → a ≤ n → vrS s → a1 ≤ n ∧ SameU m y.1 ∧ vrS y.2
  | 0, d, m, s, a, y, a1, h, ha, hs => by
    simp only [tkDs] at h
    injection h with e1 e2
    subst e1 e2
    exact ⟨ha, .refl m, hs⟩
  | r + 1, d, m, s, a, y, a1, h, ha, hs => by
    simp only [tkDs] at h
    cases h1 : tkDr c p n m s d a with
    | er e a2 => rw [h1] at h; cases h
    | ok x a2 =>
      obtain ⟨b1, b2, b3⟩ := tkDr_b h1 ha hs
      rw [h1, Rr.bind_ok] at h
      obtain ⟨c1, c2, c3⟩ := tkDs_b r (d + 1) x.1 x.2 a2 h b1 b3
      exact ⟨c1, b2.trans c2, c3⟩
theorem tkVc_q {c : Cx} {p : List UInt8} {n : Nat} {m : Mb} {s : St} {d k a : Nat} {y : Mb × St} {a1 : Nat} (h : tkVc c p n m s d k a = .ok y a1) : SameQ s y.2 := by
  unfold tkVc at h
  suffices hr : ∀ (m' : Mb) (a' : Nat), ((tkD p n (sXs s d) 63 a').bind fun x a2 => (tkD p n (sYs s d) 63 a2).bind fun y a3 => .ok (setVm m' d k x y, setV s d x y) a3) = .ok y a1 → SameQ s y.2 by
    split at h
    · cases hf : tkF p n a with
      | er e a2 => rw [hf] at h; cases h
      | ok b a2 => rw [hf, Rr.bind_ok, Rr.bind_ok] at h; exact hr _ _ h
    · rw [Rr.bind_ok] at h; exact hr _ _ h
  intro m' a' h
  cases h1 : tkD p n (sXs s d) 63 a' with
  | er e a2 => rw [h1] at h; cases h
  | ok x a2 =>
    rw [h1, Rr.bind_ok] at h
    cases h2 : tkD p n (sYs s d) 63 a2 with
    | er e a3 => rw [h2] at h; cases h
    | ok z a3 =>
      rw [h2, Rr.bind_ok] at h
      injection h with e1 e2
      subst e1
      show SameQ s (setV s d x z)
      unfold setV
      split <;> exact ⟨rfl, rfl, rfl, rfl⟩
theorem tkVs_q {c : Cx} {p : List UInt8} {n d : Nat} : ∀ (r k : Nat) (m : Mb) (s : St) (a : Nat) {y : Mb × St} {a1 : Nat}, tkVs c p n d r k m s a = .ok y a1 → SameQ s y.2
  | 0, k, m, s, a, y, a1, h => by
    simp only [tkVs] at h
    injection h with e1 e2
    subst e1
    exact ⟨rfl, rfl, rfl, rfl⟩
  | r + 1, k, m, s, a, y, a1, h => by
    simp only [tkVs] at h
    cases h1 : tkVc c p n m s d k a with
    | er e a2 => rw [h1] at h; cases h
    | ok x a2 =>
      rw [h1, Rr.bind_ok] at h
      exact (tkVc_q h1).trans (tkVs_q r (k + 1) x.1 x.2 a2 h)
theorem tkDs_q {c : Cx} {p : List UInt8} {n : Nat} : ∀ (r d : Nat) (m : Mb) (s : St) (a : Nat) {y : Mb × St} {a1 : Nat}, tkDs c p n r d m s a = .ok y a1 → SameQ s y.2
  | 0, d, m, s, a, y, a1, h => by
    simp only [tkDs] at h
    injection h with e1 e2
    subst e1
    exact ⟨rfl, rfl, rfl, rfl⟩
  | r + 1, d, m, s, a, y, a1, h => by
    simp only [tkDs] at h
    cases h1 : tkDr c p n m s d a with
    | er e a2 => rw [h1] at h; cases h
    | ok x a2 =>
      rw [h1, Rr.bind_ok] at h
      refine SameQ.trans ?_ (tkDs_q r (d + 1) x.1 x.2 a2 h)
      unfold tkDr at h1
      split at h1
      · exact tkVs_q _ _ _ _ _ h1
      · injection h1 with e1 e2
        subst e1
        exact ⟨rfl, rfl, rfl, rfl⟩
theorem tkPr_b {c : Cx} {p : List UInt8} {n : Nat} {m : Mb} {s : St} {a : Nat} {y : Mb × St} {a1 : Nat} (h : tkPr c p n m s a = .ok y a1) (ha : a ≤ n) (hs : vrS s) : a1 ≤ n ∧ y.1.lv = m.lv ∧ y.1.k = m.k ∧ SameQ s y.2 := by
  unfold tkPr at h
  split at h
  · split at h
    · cases hf : tkF p n a with
      | er e a2 => rw [hf] at h; cases h
      | ok b a2 =>
        have := tkF_b hf
        rw [hf, Rr.bind_ok, Rr.bind_ok] at h
        obtain ⟨c1, c2, c3⟩ := tkDs_b _ _ _ _ _ h (by omega) hs
        exact ⟨c1, c2.1, c2.2.2.2.2, tkDs_q _ _ _ _ _ h⟩
    · rw [Rr.bind_ok] at h
      obtain ⟨c1, c2, c3⟩ := tkDs_b _ _ _ _ _ h ha hs
      exact ⟨c1, c2.1, c2.2.2.2.2, tkDs_q _ _ _ _ _ h⟩
  · injection h with e1 e2
    subst e1 e2
    exact ⟨ha, rfl, rfl, rfl, rfl, rfl, rfl⟩
theorem tkKd_b {c : Cx} {p : List UInt8} {n a : Nat} {x : Mb × Bool} {a1 : Nat} (h : tkKd c p n a = .ok x a1) (ha : a ≤ n) : a1 ≤ n ∧ x.1.lv = zl384 := by
  unfold tkKd at h
  split at h
  · injection h with e1 e2
    subst e1 e2
    exact ⟨ha, rfl⟩
  · cases hu : tkU p n a with
    | er e a2 => rw [hu] at h; cases h
    | ok v a2 =>
      have hb := tkU_b hu ha
      rw [hu, Rr.bind_ok] at h
      generalize (if c.t = 2 then 3 else 7 : Nat) = last at h
      split at h
      · cases h
      · split at h
        · injection h with e1 e2; subst e1 e2; exact ⟨hb.2.2, rfl⟩
        · split at h
          · injection h with e1 e2; subst e1 e2; exact ⟨hb.2.2, rfl⟩
          · injection h with e1 e2; subst e1 e2; exact ⟨hb.2.2, rfl⟩
theorem tkLv_b {p : List UInt8} {n : Nat} : ∀ (r : Nat) (m : Mb) (s : St) (a : Nat) {y : Mb × St} {a1 : Nat}, tkLv p n r m s a = .ok y a1 → a ≤ n → r ≤ 6 → m.lv.length = 384 → a1 ≤ n ∧ y.1.lv.length = 384 ∧ y.1.k = m.k
  | 0, m, s, a, y, a1, h, ha, hr, hm => by
    simp only [tkLv] at h
    injection h with e1 e2
    subst e1 e2
    exact ⟨ha, hm, rfl⟩
  | r + 1, m, s, a, y, a1, h, ha, hr, hm => by
    have hzl : z64.length = 64 := by simp [z64]
    simp only [tkLv] at h
    split at h
    · split at h
      · cases h1 : tkBl p n 0 a with
        | er e a2 => rw [h1] at h; cases h
        | ok l a2 =>
          have hb := tkB_b _ _ _ _ h1 ha
          rw [h1, Rr.bind_ok] at h
          split at h
          · cases h
          · exact tkLv_b r (setLv m (5 - r) l) s a2 h hb.2.1 (by omega) (setLv_len _ _ _ (by omega) (by rw [hb.2.2, hzl]) hm)
      · cases h1 : tkD p n (dcS s (5 - r - 3)) 4095 a with
        | er e a2 => rw [h1] at h; cases h
        | ok d a2 =>
          have hb := tkD_b h1 ha
          rw [h1, Rr.bind_ok] at h
          cases h2 : tkBl p n 1 a2 with
          | er e a3 => rw [h2] at h; cases h
          | ok l a3 =>
            have hb2 := tkB_b _ _ _ _ h2 hb.2.2
            rw [h2, Rr.bind_ok] at h
            exact tkLv_b r (setLv m (5 - r) (l.set 0 d)) _ a3 h hb2.2.1 (by omega) (setLv_len _ _ _ (by omega) (by rw [List.length_set, hb2.2.2, hzl]) hm)
    · exact tkLv_b r m s a h ha (by omega) hm

/-- Dropping Take's own blocks. -/
theorem tk_out (H : Heap) (i : Nat) (p : List UInt8) (n a : Nat) (K : Heap) (x : Rr (Mb × St)) (hx : match x with | .ok _ a' => a = a' | .er _ _ => a ≤ n) : Outs H (mtkR H i p n x) (rvM x) (H.set i (rA p n a) ++ K) :=
  .inr (.inr fun hs => ⟨rvM x, H.set i (rA p n a), by
    cases x with
    | ok y a' => exact ⟨rfl, by rw [show a = a' from hx]⟩
    | er e a' => exact ⟨rfl, a, hx, rfl⟩, by simp, CutH.base (hsc_rA _ _ _ _ _ hs), .id (rvM_sc _ _)⟩)
theorem tkKd_e {c : Cx} {p : List UInt8} {n a e a1 : Nat} (h : tkKd c p n a = .er e a1) (ha : a ≤ n) : a1 ≤ n := by
  unfold tkKd at h
  split at h
  · cases h
  · cases hu : tkU p n a with
    | er e2 a2 => rw [hu] at h; have := tkU_e hu; injection h with h1 h2; omega
    | ok v a2 =>
      have hb := tkU_b hu ha
      rw [hu, Rr.bind_ok] at h
      generalize (if c.t = 2 then 3 else 7 : Nat) = last at h
      split at h
      · injection h with h1 h2; omega
      · split at h
        · cases h
        · split at h <;> cases h
theorem tG_gX (H : Heap) (i : Nat) (p : List UInt8) (n a : Nat) (X : Heap) (B4 B5 : Blk) (j : Nat) (hX : X.length = 4) (hj : j < 4) : (tG H i p n a X B4 B5)[H.length + j]? = X[j]? := by
  unfold tG
  rw [List.getElem?_append_right (by simp), List.length_set, show H.length + j - H.length = j by omega, List.getElem?_append_left (by omega)]
theorem tG_sX (H : Heap) (i : Nat) (p : List UInt8) (n a : Nat) (X : Heap) (B4 B5 B : Blk) (j : Nat) (hX : X.length = 4) (hj : j < 4) : (tG H i p n a X B4 B5).set (H.length + j) B = tG H i p n a (X.set j B) B4 B5 := by
  unfold tG
  rw [List.set_append_right _ _ (by simp), List.length_set, show H.length + j - H.length = j by omega, List.set_append_left _ _ (by omega)]
/-- What is left to do from part k on. -/
def Rk (c : Cx) (q : List UInt8) (n : Nat) : Nat → Mb → St → Bool → Nat → Rr (Mb × St)
  | 0, _, s, _, a => mtk c s q n a
  | 1, m, s, hl, a => tkRs c q n hl m s a
  | 2, m, s, hl, a => (tkCh c q n hl m s a).bind fun z a3 => (tkCo q n hl z.1 a3).bind fun m a4 => (tkLv q n 6 m z.2 a4).bind fun w a5 => .ok (w.1, aft w.2 w.1.k) a5
  | 3, m, s, hl, a => (tkCo q n hl m a).bind fun m a4 => (tkLv q n 6 m s a4).bind fun w a5 => .ok (w.1, aft w.2 w.1.k) a5
  | 4, m, s, _, a => (tkLv q n 6 m s a).bind fun w a5 => .ok (w.1, aft w.2 w.1.k) a5
  | _, m, s, _, a => .ok (m, aft s m.k) a
structure Sd (n k : Nat) (m : Mb) (s : St) (hl : Bool) (a : Nat) : Prop where
  l : m.lv.length = 384
  a : a ≤ n
  z : k = 0 → m = zMb ∧ hl = false
  v : k ≤ 1 → vrS s
  q : k ≤ 2 → 1 ≤ s.q ∧ s.q ≤ 31
  d : k ≤ 4 → dcR s
def prts : List PV := [.func 55 [] [], .func 56 [] [], .func 57 [] [], .func 58 [] [], .func 59 [] []]
def prtQ (H : Heap) (i : Nat) (p : List UInt8) (n : Nat) (X : Heap) (c : Cx) (k : Nat) (res : Rr (Mb × St)) : PV → Heap → Prop := fun v H' =>
  (∃ m s hl a, v = .int .i64 0 ∧ Sd n (k + 1) m s hl a ∧ Rk c p n (k + 1) m s hl a = res ∧ H' = tG H i p n a X (mB m) (tB s i c (H.length + 4) hl)) ∨
  (∃ e a0, res = .er e a0 ∧ v = ecd e ∧ ∃ a m s hl, a ≤ n ∧ m.lv.length = 384 ∧ H' = tG H i p n a X (mB m) (tB s i c (H.length + 4) hl))
theorem prt_of {H : Heap} {i : Nat} {p : List UInt8} {n : Nat} {X : Heap} {c : Cx} {k : Nat} {res : Rr (Mb × St)} {hl : Bool} {x : Rr (Mb × St)} (hok : ∀ y a, x = .ok y a → Sd n (k + 1) y.1 y.2 hl a ∧ Rk c p n (k + 1) y.1 y.2 hl a = res) (her : ∀ e a, x = .er e a → ∃ a0, res = .er e a0) (v : PV) (H' : Heap) (h : prtR H i p n X c hl x v H') : prtQ H i p n X c k res v H' := by
  cases x with
  | ok y a =>
    obtain ⟨h1, h2⟩ := hok y a rfl
    exact .inl ⟨y.1, y.2, hl, a, h.1, h1, h2, h.2⟩
  | er e a =>
    obtain ⟨a0, h0⟩ := her e a rfl
    obtain ⟨h1, a1, m, s, h2, h3, h4⟩ := h
    exact .inr ⟨e, a0, h0, h1, a1, m, s, hl, h2, h3, h4⟩
theorem disp (H : Heap) (i : Nat) (p : List UInt8) (n : Nat) (X : Heap) (c : Cx) (hi : i < H.length) (hX : X.length = 4) (hn : n ≤ 8 * p.length) (hp : p.length ≤ 100000000) (k : Nat) (hk : k < 5) (m : Mb) (s : St) (hl : Bool) (a : Nat) (res : Rr (Mb × St)) (hS : Sd n k m s hl a) (hR : Rk c p n k m s hl a = res) :
    ∃ f, prts[k]? = some (.func f [] []) ∧ CallEx Try.prog f [.ptr (H.length + 5) 0 0] (tG H i p n a X (mB m) (tB s i c (H.length + 4) hl)) (prtQ H i p n X c k res) := by
  obtain ⟨hl384, ha, hz, hv, hq, hd⟩ := hS
  have h5 : k = 0 ∨ k = 1 ∨ k = 2 ∨ k = 3 ∨ k = 4 := by omega
  rcases h5 with rfl | rfl | rfl | rfl | rfl
  · obtain ⟨rfl, rfl⟩ := hz rfl
    refine ⟨_, rfl, (tkind_ok H i p n a X c s hi hX ha hn hp).toEx.mono fun v H' h => ?_⟩
    obtain ⟨rfl, rfl⟩ := h
    simp only [Rk, mtk] at hR
    cases hk : tkKd c p n a with
    | ok x a1 =>
      rw [hk, Rr.bind_ok] at hR
      obtain ⟨b1, b2⟩ := tkKd_b hk ha
      exact .inl ⟨x.1, s, x.2, a1, rfl, ⟨by rw [b2]; exact zl384_len, b1, fun e => by omega, fun _ => hv (by omega), fun _ => hq (by omega), fun _ => hd (by omega)⟩, hR, rfl⟩
    | er e a1 =>
      rw [hk, Rr.bind_er] at hR
      refine .inr ⟨e, a1, hR.symm, rfl, a1, zMb, s, false, ?_, hl384, rfl⟩
      exact tkKd_e hk ha
  · refine ⟨_, rfl, (tpred_ok H i p n X c hl hi hX hn hp m s a hl384 (hv (by omega)) ha).mono (prt_of ?_ ?_)⟩
    · intro y a1 h
      obtain ⟨b1, b2, b3, b4⟩ := tkPr_b h ha (hv (by omega))
      simp only [Rk, tkRs, h, Rr.bind_ok] at hR
      exact ⟨⟨by rw [b2]; exact hl384, b1, fun e => by omega, fun e => by omega, fun _ => by rw [b4.1]; exact hq (by omega), fun _ => dcR_same b4 (hd (by omega))⟩, hR⟩
    · intro e a1 h
      simp only [Rk, tkRs, h, Rr.bind_er] at hR
      exact ⟨a1, hR.symm⟩
  · refine ⟨_, rfl, (tchg_ok H i p n X c hl hi hX hn hp m s a hl384 (hq (by omega)) ha).mono (prt_of ?_ ?_)⟩
    · intro y a1 h
      obtain ⟨b1, b2, b3⟩ := tkCh_b h ha
      simp only [Rk, h, Rr.bind_ok] at hR
      refine ⟨⟨by rw [b2]; exact hl384, b1, fun e => by omega, fun e => by omega, fun e => by omega, fun _ j => ?_⟩, hR⟩
      have := hd (by omega) j
      unfold dcS at this ⊢
      rw [← b3.1, ← b3.2.1, ← b3.2.2]
      exact this
    · intro e a1 h
      simp only [Rk, h, Rr.bind_er] at hR
      exact ⟨a1, hR.symm⟩
  · refine ⟨_, rfl, (tcod_ok H i p n X c hl hi hX hn hp m s a hl384 ha).mono (prt_of ?_ ?_)⟩
    · intro y a1 h
      cases hc : tkCo p n hl m a with
      | er e a2 => rw [hc] at h; cases h
      | ok m' a2 =>
        obtain ⟨b1, b2, b3⟩ := tkCo_b hc ha
        rw [hc, Rr.bind_ok] at h
        injection h with e1 e2
        subst e1 e2
        simp only [Rk, hc, Rr.bind_ok] at hR
        exact ⟨⟨by rw [b2]; exact hl384, b1, fun e => by omega, fun e => by omega, fun e => by omega, fun _ => hd (by omega)⟩, hR⟩
    · intro e a1 h
      cases hc : tkCo p n hl m a with
      | ok m' a2 => rw [hc] at h; cases h
      | er e2 a2 =>
        rw [hc] at h
        simp only [Rk, hc, Rr.bind_er] at hR
        injection h with e1 e2
        subst e1
        exact ⟨a2, hR.symm⟩
  · refine ⟨_, rfl, (tlev_ok H i p n X c hl hi hX hn hp m s a hl384 (hd (by omega)) ha).mono (prt_of ?_ ?_)⟩
    · intro y a1 h
      obtain ⟨b1, b2, b3⟩ := tkLv_b 6 m s a h ha (by omega) hl384
      simp only [Rk, h, Rr.bind_ok] at hR
      exact ⟨⟨b2, b1, fun e => by omega, fun e => by omega, fun e => by omega, fun e => by omega⟩, hR⟩
    · intro e a1 h
      simp only [Rk, h, Rr.bind_er] at hR
      exact ⟨a1, hR.symm⟩
set_option maxHeartbeats 8000000 in
set_option maxRecDepth 100000 in
theorem mtake_ok (i : Nat) (p : List UInt8) (n a : Nat) (c : Cx) (s : St) (H : Heap) (hA : H[i]? = some (rA p n a)) (ha : a ≤ n) (hn : n ≤ 8 * p.length) (hp : p.length ≤ 100000000) :
    CallEx Try.prog 22 [.ptr i 0 0, .agg (cxc c), .agg (stc s)] H (mtkR H i p n (mtkA c s p n a)) := by
  have hi := (List.getElem?_eq_some_iff.1 hA).1
  have hself := set_self hA
  have c1 := cxc_cell c
  have c2 := stc_cell s
  have vo := fun K => vcx_ok c K
  have so := fun K => vst_ok' s K
  have tk1 : List.take 4 (cxc c) = cxc c := rfl
  have tk2 : List.take 8 (stc s) = stc s := rfl
  have l1 : (cxc c).length = 4 := rfl
  have l2 : (stc s).length = 8 := rfl
  have hx := fun K => get_ext (K := K) hA
  have hzl := zmv_len
  have hzc := zmv_cell
  have tz : List.take 408 zmv = zmv := List.take_of_length_le (by omega)
  have dz : List.drop 408 zmv = [] := List.drop_of_length_le (by omega)
  have hrv : rA p n a = rA p n a := rfl
  have rv0 : ∀ a, (rA p n a).ver = 0 := fun _ => rfl
  generalize hres : mtkA c s p n a = res
  refine CallEx.body (F0 := [(0, .ptr i 0 0), (1, .agg (cxc c)), (2, .agg (stc s))]) Try.func22 rfl Try.ntmps22 Try.results22 rfl (by kernel_rfl) rfl ?_
  (repeat refine PW.seq ?_); refine PW.rg rfl fun K hK => ?_; simp (maxSteps := 3000000) (disch := omega) only [go_sem, ↓reduceIte, reduceCtorEq, pappend, plen, c1, c2, ↓zcMb, Nat.reduceAdd]; refine hK _ _ ?_; clear hK K
  unfold mtkA at hres
  suffices hrest : PW Try.prog _ _ [(0, .ptr i 0 0), (4, .ptr H.length 0 0), (5, .ptr (H.length + 1) 0 0), (6, .ptr (H.length + 2) 0 0), (7, .ptr (H.length + 3) 0 0), (25, .bool (!(vcx c && vstB s)))] (H ++ [⟨38, 0, cxc c⟩, ⟨34, 0, stc s⟩, ⟨49, 0, zmv⟩, ⟨34, 0, stc zSt⟩]) _ by
    cases hv : vcx c with
    | false =>
      rw [hv] at vo hrest
      (repeat refine PW.seq ?_); refine PW.rg rfl fun K hK => ?_; simp (maxSteps := 3000000) (disch := omega) only [go_sem, ↓reduceIte, reduceCtorEq, pappend, plen, hx, rv0, tk1, l1]
      refine VCx.call (vo _) rfl ?_; simp (maxSteps := 3000000) (disch := omega) only [go_sem, ↓reduceIte, reduceCtorEq, pappend, plen]; refine hK _ _ ?_; clear hK K
      exact PW.at [0, 4, 5, 6, 7, 25] hrest rfl rfl
    | true =>
      rw [hv] at vo hrest
      (repeat refine PW.seq ?_); refine PW.rg rfl fun K hK => ?_; simp (maxSteps := 3000000) (disch := omega) only [go_sem, ↓reduceIte, reduceCtorEq, pappend, plen, hx, rv0, tk1, l1]
      refine VCx.call (vo _) rfl ?_; simp (maxSteps := 3000000) (disch := omega) only [go_sem, ↓reduceIte, reduceCtorEq, pappend, plen, tk2, l2]
      refine VCx.call (so _) rfl ?_; simp (maxSteps := 3000000) (disch := omega) only [go_sem, ↓reduceIte, reduceCtorEq, pappend, plen]; refine hK _ _ ?_; clear hK K
      exact PW.at [0, 4, 5, 6, 7, 25] hrest rfl rfl
  cases hval : (vcx c && vstB s) with
  | false =>
    rw [hval, if_neg (by decide)] at hres
    (repeat refine PW.seq ?_); refine PW.cond (t := _) rfl (fun h => ?_) (fun h => ?_)
    rotate_left
    · cases h
    (repeat refine PW.seq ?_); refine PW.rg rfl fun K hK => ?_; simp (maxSteps := 3000000) (disch := omega) only [go_sem, ↓reduceIte, reduceCtorEq, pappend, plen, ↓zcMb, hzl, hzc, tz, dz, stc]; refine hK _ _ ?_; clear hK K
    refine PW.ret ⟨.tup [.agg zmv, .agg (stc zSt), .int .i64 1], by simp (maxSteps := 3000000) (disch := omega) only [go_sem, ↓reduceIte, reduceCtorEq, pappend, plen, presults, presult, List.mapM_cons, List.mapM_nil, Option.pure_def, Option.bind_eq_bind, Option.bind_some, Array.toList, hzl, tz, stc, zSt], ?_⟩
    rw [← hres]
    have := tk_out H i p n a [⟨38, 0, cxc c⟩, ⟨34, 0, stc s⟩, ⟨49, 0, zmv⟩, ⟨34, 0, stc zSt⟩] (.er 0 a) ha
    rw [hself] at this
    exact this
  | true =>
    rw [hval, if_pos rfl] at hres
    rw [Bool.and_eq_true] at hval
    obtain ⟨hq, hv, hd⟩ := vst_b hval.2
    (repeat refine PW.seq ?_); refine PW.cond (t := _) rfl (fun h => ?_) (fun h => ?_)
    · cases h
    refine PW.skip ?_
    (repeat refine PW.seq ?_); refine PW.rg rfl fun K hK => ?_; simp (maxSteps := 3000000) (disch := omega) only [go_sem, ↓reduceIte, reduceCtorEq, pappend, plen, ↓zcMb]; refine hK _ _ ?_; clear hK K
    (repeat refine PW.seq ?_); refine PW.rg rfl fun K hK => ?_; simp (maxSteps := 3000000) (disch := omega) only [go_sem, ↓reduceIte, reduceCtorEq, pappend, plen, tk1, tk2, l1, l2, cxc, stc]; refine hK _ _ ?_; clear hK K
    obtain ⟨X, hXe⟩ : ∃ X : Heap, X = [⟨38, 0, cxc c⟩, ⟨34, 0, stc s⟩, ⟨49, 0, zmv⟩, ⟨34, 0, stc zSt⟩] := ⟨_, rfl⟩
    have hX : X.length = 4 := by rw [hXe]; rfl
    refine PW.at [0, 4, 5, 6, 7, 9, 10] (F1 := [(0, .ptr i 0 0), (4, .ptr H.length 0 0), (5, .ptr (H.length + 1) 0 0), (6, .ptr (H.length + 2) 0 0), (7, .ptr (H.length + 3) 0 0), (9, .ptr (H.length + 4) 0 0), (10, .ptr (H.length + 5) 0 0)]) (H1 := tG H i p n a X (mB zMb) (tB s i c (H.length + 4) false)) ?_ rfl (by unfold tG; rw [hself, hXe]; rfl)
    have nf : (pvc Value.nilFunc).cells = [.nl 0] := rfl
    have hS : Sd n 0 zMb s false a := ⟨zl384_len, ha, fun _ => ⟨rfl, rfl⟩, fun _ => hv, fun _ => hq, fun _ => hd⟩
    (repeat refine PW.seq ?_); refine PW.rg rfl fun K hK => ?_; simp (maxSteps := 3000000) (disch := omega) only [go_sem, ↓reduceIte, reduceCtorEq, pappend, plen, nf]; refine hK _ _ ?_; clear hK K
    (repeat refine PW.seq ?_); refine PW.block (PW.loop ?_)
    suffices hl1 : ∀ (k : Nat) (m : Mb) (s : St) (hl : Bool) (a : Nat), k ≤ 5 → Sd n k m s hl a → Rk c p n k m s hl a = res → PL Try.prog _ _ [(6, .ptr (H.length + 2) 0 0), (7, .ptr (H.length + 3) 0 0), (9, .ptr (H.length + 4) 0 0), (10, .ptr (H.length + 5) 0 0), (32, .slice prts 5 true), (33, .int .i64 5), (34, .int .i64 (k : Int))] (tG H i p n a X (mB m) (tB s i c (H.length + 4) hl)) _ by
      exact PL.at [6, 7, 9, 10, 32, 33, 34] (hl1 0 zMb s false a (by omega) hS hres) rfl rfl
    clear hres hS hv hq hd
    have hpl : prts.length = 5 := rfl
    have gE : ∀ m s hl a, (tG H i p n a X (mB m) (tB s i c (H.length + 4) hl))[H.length + 2]? = some ⟨49, 0, zmv⟩ ∧ (tG H i p n a X (mB m) (tB s i c (H.length + 4) hl))[H.length + 3]? = some ⟨34, 0, stc zSt⟩ := fun m s hl a => by
      unfold tG
      rw [hXe]
      exact ⟨by rw [List.getElem?_append_right (by simp), List.length_set, show H.length + 2 - H.length = 2 by omega]; rfl, by rw [List.getElem?_append_right (by simp), List.length_set, show H.length + 3 - H.length = 3 by omega]; rfl⟩
    have ao := fun s k K => aft_ok s k K
    intro k m s hl a hk hS hR
    induction hd : 5 - k using Nat.strongRecOn generalizing k m s hl a with
    | _ d ih =>
      refine PL.round ?_; (repeat refine PW.seq ?_); refine PW.rg rfl fun K hK => ?_; simp (maxSteps := 3000000) (disch := omega) only [go_sem, ↓reduceIte, reduceCtorEq, pappend, plen]; refine hK _ _ ?_; clear hK K
      (repeat refine PW.seq ?_); refine PW.cond (t := _) rfl (fun h => ?_) (fun h => ?_)
      · have h5 : k < 5 := by have := of_decide_eq_true h; omega
        obtain ⟨f, hf, hc⟩ := disp H i p n X c hi hX hn hp k h5 m s hl a res hS hR
        refine PW.skip ?_; (repeat refine PW.seq ?_); refine PW.block ?_
        (repeat refine PW.seq ?_); refine PW.rg rfl fun K hK => ?_; simp (maxSteps := 3000000) (disch := omega) only [go_sem, ↓reduceIte, reduceCtorEq, pappend, plen, hf, hpl]; refine hK _ _ ?_; clear hK K
        (repeat refine PW.seq ?_); refine PW.rg rfl fun K hK => ?_; simp (maxSteps := 3000000) (disch := omega) only [go_sem, ↓reduceIte, reduceCtorEq, pappend, plen]
        refine VCx.callR hc rfl fun v H' hQ => ?_
        rcases hQ with ⟨m', s', hl', a', rfl, hS', hR', rfl⟩ | ⟨e, a0, hre, rfl, a', m', s', hl', ha', hml', rfl⟩
        · simp (maxSteps := 3000000) (disch := omega) only [go_sem, ↓reduceIte, reduceCtorEq, pappend, plen]; refine hK _ _ ?_; clear hK K
          (repeat refine PW.seq ?_); refine PW.rg rfl fun K hK => ?_; simp (maxSteps := 3000000) (disch := omega) only [go_sem, ↓reduceIte, reduceCtorEq, pappend, plen]; refine hK _ _ ?_; clear hK K
          (repeat refine PW.seq ?_); refine PW.cond (t := _) rfl (fun h => ?_) (fun h => ?_)
          · cases h
          refine PW.skip ?_
          (repeat refine PW.seq ?_); refine PW.rg rfl fun K hK => ?_; simp (maxSteps := 3000000) (disch := omega) only [go_sem, ↓reduceIte, reduceCtorEq, pappend, plen]; refine hK _ _ ?_; clear hK K
          exact PL.at [6, 7, 9, 10, 32, 33, 34] (ih (5 - (k + 1)) (by omega) (k + 1) m' s' hl' a' (by omega) hS' hR' rfl) rfl rfl
        · have d0 : ((e : Int) + 1 != 0) = true := by simp; omega
          obtain ⟨ge1, ge2⟩ := gE m' s' hl' a'
          have se1 := set_self ge1
          have se2 := set_self ge2
          have lst : (stc zSt).length = 8 := rfl
          simp (maxSteps := 3000000) (disch := omega) only [go_sem, ↓reduceIte, reduceCtorEq, pappend, plen, ecd]; refine hK _ _ ?_; clear hK K
          (repeat refine PW.seq ?_); refine PW.rg rfl fun K hK => ?_; simp (maxSteps := 3000000) (disch := omega) only [go_sem, ↓reduceIte, reduceCtorEq, pappend, plen, d0]; refine hK _ _ ?_; clear hK K
          (repeat refine PW.seq ?_); refine PW.cond (t := _) rfl (fun h => ?_) (fun h => ?_)
          rotate_left
          · cases h
          (repeat refine PW.seq ?_); refine PW.rg rfl fun K hK => ?_; simp (maxSteps := 3000000) (disch := omega) only [go_sem, ↓reduceIte, reduceCtorEq, pappend, plen, ↓zcMb, ge1, ge2, hzl, hzc, dz, lst, se1]; refine hK _ _ ?_; clear hK K
          refine PW.at [6, 7, 8] (F1 := [(6, .ptr (H.length + 2) 0 0), (7, .ptr (H.length + 3) 0 0), (8, .int .i64 ((e : Int) + 1))]) (H1 := tG H i p n a' X (mB m') (tB s' i c (H.length + 4) hl')) ?_ rfl se2
          have tst : List.take 8 (stc zSt) = stc zSt := rfl
          refine PW.ret ⟨.tup [.agg zmv, .agg (stc zSt), .int .i64 ((e : Int) + 1)], by simp (maxSteps := 3000000) (disch := omega) only [go_sem, ↓reduceIte, reduceCtorEq, pappend, plen, presults, presult, List.mapM_cons, List.mapM_nil, Option.pure_def, Option.bind_eq_bind, Option.bind_some, Array.toList, ge1, ge2, hzl, tz, lst, tst], ?_⟩
          rw [hre]
          exact tk_out H i p n a' (X ++ [mB m', tB s' i c (H.length + 4) hl']) (.er e a0) ha'
      · have h5 : k = 5 := by have := of_decide_eq_false h; omega
        subst h5
        refine PW.exit ?_
        simp only [Rk] at hR
        have ml := hS.l
        have hlm := mbc_len m ml
        have htm : List.take 408 (mbc m) = mbc m := List.take_of_length_le (by omega)
        have hcm := mbc_cell m
        have g5 := fun B4 B5 => tG_5 H i p n a X B4 B5 hX
        have g4 := fun B4 B5 => tG_4 H i p n a X B4 B5 hX
        obtain ⟨ge1, ge2⟩ := gE m s hl a
        have gX2 := fun Y B4 B5 B hY => tG_sX H i p n a Y B4 B5 B 2 hY (by omega)
        have gX3 := fun Y B4 B5 B hY => tG_sX H i p n a Y B4 B5 B 3 hY (by omega)
        have tcs : List.take 8 (tC s i c (H.length + 4) hl) = stc s := rfl
        have lst : ∀ t, (stc t).length = 8 := fun _ => rfl
        have cst : ∀ t, (stc t).all PV.cell = true := fun _ => rfl
        have ao1 := fun K => ao s m.k K
        have e3 : (tG H i p n a (X.set 2 (mB m)) (mB m) (tB s i c (H.length + 4) hl))[H.length + 3]? = some ⟨34, 0, stc zSt⟩ := by
          rw [tG_gX _ _ _ _ _ _ _ _ _ (by rw [List.length_set]; exact hX) (by omega), hXe]; rfl
        have hw2 := gX2 X (mB m) (tB s i c (H.length + 4) hl) (mB m) hX
        have hw3 := gX3 (X.set 2 (mB m)) (mB m) (tB s i c (H.length + 4) hl) ⟨34, 0, stc (aft s m.k)⟩ (by rw [List.length_set]; exact hX)
        have dst : List.drop 8 (stc zSt) = [] := rfl
        (repeat refine PW.seq ?_); refine PW.draw mix (by kernel_rfl) fun K hK => ?_; simp (maxSteps := 3000000) (disch := omega) only [go_sem, ↓reduceIte, reduceCtorEq, pappend, plen, g5, g4, tB_v, tB_c, mB_v, mB_c, mbc_k, hlm, htm, tcs, tC_len]
        refine VCy.call (ao1 _) rfl ?_; simp (maxSteps := 3000000) (disch := omega) only [go_sem, ↓reduceIte, reduceCtorEq, pappend, plen, ge1, ge2, hzl, dz, hlm, hcm, mB_of, hw2, e3, lst, cst, dst, hw3]
        refine hK _ _ ?_; clear hK K
        have hX2 : ((X.set 2 (mB m)).set 3 ⟨34, 0, stc (aft s m.k)⟩).length = 4 := by rw [List.length_set, List.length_set]; exact hX
        have f2 : (tG H i p n a ((X.set 2 (mB m)).set 3 ⟨34, 0, stc (aft s m.k)⟩) (mB m) (tB s i c (H.length + 4) hl))[H.length + 2]? = some (mB m) := by
          rw [tG_gX _ _ _ _ _ _ _ _ _ hX2 (by omega), hXe]; rfl
        have f3 : (tG H i p n a ((X.set 2 (mB m)).set 3 ⟨34, 0, stc (aft s m.k)⟩) (mB m) (tB s i c (H.length + 4) hl))[H.length + 3]? = some ⟨34, 0, stc (aft s m.k)⟩ := by
          rw [tG_gX _ _ _ _ _ _ _ _ _ hX2 (by omega), hXe]; rfl
        have tst : ∀ t, List.take 8 (stc t) = stc t := fun _ => rfl
        refine PW.ret ⟨.tup [.agg (mbc m), .agg (stc (aft s m.k)), .int .i64 0], by simp (maxSteps := 3000000) (disch := omega) only [go_sem, ↓reduceIte, reduceCtorEq, pappend, plen, presults, presult, List.mapM_cons, List.mapM_nil, Option.pure_def, Option.bind_eq_bind, Option.bind_some, Array.toList, f2, f3, mB_v, mB_c, hlm, htm, lst, tst], ?_⟩
        rw [← hR]
        exact tk_out H i p n a (((X.set 2 (mB m)).set 3 ⟨34, 0, stc (aft s m.k)⟩) ++ [mB m, tB s i c (H.length + 4) hl]) (.ok (m, aft s m.k) a) rfl

end Go.Proofs.Ytcabpncdgagihaa.Sc

namespace Go.Proofs.Ytcabpncdgagihaa.Sc
set_option linter.all false
set_option linter.unusedVariables false
set_option linter.unusedSimpArgs false
open Pm Ty Go.RowKit

/-! ### the state after, from the start -/
def amap (k : Int) (x : Rr (Mb × St)) : Rr (Mb × St) := x.bind fun y a => .ok (y.1, aft y.2 k) a
theorem aft2_X (s : St) (d : Nat) : sXs (aft s 2) d = sXs s d := by unfold sXs aft; simp
theorem aft2_Y (s : St) (d : Nat) : sYs (aft s 2) d = sYs s d := by unfold sYs aft; simp
theorem aft2_set (s : St) (d : Nat) (x y : Int) : setV (aft s 2) d x y = aft (setV s d x y) 2 := by unfold setV; split <;> rfl
theorem tkVc_aft (c : Cx) (q : List UInt8) (n : Nat) (m : Mb) (s : St) (d k a : Nat) : tkVc c q n m (aft s 2) d k a = amap 2 (tkVc c q n m s d k a) := by
  unfold tkVc amap
  rw [aft2_X, aft2_Y]
  simp only [Rr.bind_bind, Rr.bind_ok, aft2_set]
theorem tkVs_aft (c : Cx) (q : List UInt8) (n d : Nat) : ∀ (r k : Nat) (m : Mb) (s : St) (a : Nat), tkVs c q n d r k m (aft s 2) a = amap 2 (tkVs c q n d r k m s a)
  | 0, k, m, s, a => rfl
  | r + 1, k, m, s, a => by
    simp only [tkVs, tkVc_aft, amap, Rr.bind_bind, Rr.bind_ok]
    congr 1
    funext x a1
    exact tkVs_aft c q n d r (k + 1) x.1 x.2 a1
theorem tkDs_aft (c : Cx) (q : List UInt8) (n : Nat) : ∀ (r d : Nat) (m : Mb) (s : St) (a : Nat), tkDs c q n r d m (aft s 2) a = amap 2 (tkDs c q n r d m s a)
  | 0, d, m, s, a => rfl
  | r + 1, d, m, s, a => by
    have h1 : tkDr c q n m (aft s 2) d a = amap 2 (tkDr c q n m s d a) := by
      unfold tkDr
      split
      · exact tkVs_aft c q n d _ 0 m s a
      · rfl
    simp only [tkDs, h1, amap, Rr.bind_bind, Rr.bind_ok]
    congr 1
    funext x a1
    exact tkDs_aft c q n r (d + 1) x.1 x.2 a1
theorem tkPr_aft (c : Cx) (q : List UInt8) (n : Nat) (m : Mb) (s : St) (a : Nat) : tkPr c q n m (aft s m.k) a = amap m.k (tkPr c q n m s a) := by
  unfold tkPr
  split
  · rename_i h
    rw [h]
    simp only [amap, Rr.bind_bind]
    congr 1
    funext x a1
    exact tkDs_aft c q n 2 0 x s a1
  · rfl
theorem tkCh_aft (c : Cx) (q : List UInt8) (n : Nat) (hl : Bool) (m : Mb) (s : St) (k : Int) (a : Nat) : tkCh c q n hl m (aft s k) a = amap k (tkCh c q n hl m s a) := by
  unfold tkCh
  split
  · simp only [amap, Rr.bind_bind]
    congr 1
    funext x a1
    congr 1
    funext d a2
    show (if vqB (s.q + d) = true then _ else _) = _
    split <;> rfl
  · rfl
theorem aft1_d (s : St) (p : Nat) : dcS (aft s 1) p = dcS s p := by unfold dcS aft; simp
theorem aft1_set (s : St) (p : Nat) (x : Int) : setD (aft s 1) p x = aft (setD s p x) 1 := by unfold setD; split <;> (try split) <;> rfl
theorem tkLv_aft (q : List UInt8) (n : Nat) : ∀ (r : Nat) (m : Mb) (s : St) (k : Int) (a : Nat), (m.k = 2 ∨ k = 1) → tkLv q n r m (aft s k) a = amap k (tkLv q n r m s a)
  | 0, m, s, k, a, _ => rfl
  | r + 1, m, s, k, a, h => by
    simp only [tkLv]
    split
    · split
      · simp only [amap, Rr.bind_bind]
        congr 1
        funext l a1
        split
        · rfl
        · exact tkLv_aft q n r _ s k a1 (by rename_i h2 _; exact .inl h2)
      · rename_i h2
        rcases h with h | rfl
        · exact absurd h h2
        rw [aft1_d]
        simp only [amap, Rr.bind_bind]
        congr 1
        funext d a1
        congr 1
        funext l a2
        rw [aft1_set]
        exact tkLv_aft q n r _ _ 1 a2 (.inr rfl)
    · exact tkLv_aft q n r m s k a h

end Go.Proofs.Ytcabpncdgagihaa.Sc

namespace Go.Proofs.Ytcabpncdgagihaa.Sc
set_option linter.all false
set_option linter.unusedVariables false
set_option linter.unusedSimpArgs false
open Pm Ty Go.RowKit

theorem setSl_cdl (m : Mb) (d k : Nat) (x : Int) : cdl (setSl m d k x) = cdl m := by unfold setSl; split <;> split <;> rfl
theorem setVm_cdl (m : Mb) (d k : Nat) (x y : Int) : cdl (setVm m d k x y) = cdl m := by unfold setVm; split <;> split <;> rfl
theorem Rr.bind_eq {α β : Type} {x : Rr α} {f : α → Nat → Rr β} {y : β} {a : Nat} (h : x.bind f = .ok y a) : ∃ v a1, x = .ok v a1 ∧ f v a1 = .ok y a := by
  cases x with
  | ok v a1 => exact ⟨v, a1, rfl, h⟩
  | er e a1 => cases h
theorem tkVc_c {c : Cx} {q : List UInt8} {n : Nat} {m : Mb} {s : St} {d k a : Nat} {y : Mb × St} {a1 : Nat} (h : tkVc c q n m s d k a = .ok y a1) : cdl y.1 = cdl m := by
  unfold tkVc at h
  obtain ⟨m', a2, h1, h⟩ := Rr.bind_eq h
  obtain ⟨x, a3, _, h⟩ := Rr.bind_eq h
  obtain ⟨z, a4, _, h⟩ := Rr.bind_eq h
  injection h with e1 _
  subst e1
  rw [setVm_cdl]
  split at h1
  · obtain ⟨b, a5, _, h1⟩ := Rr.bind_eq h1
    injection h1 with e1 _
    subst e1
    rw [setSl_cdl]
  · injection h1 with e1 _
    rw [e1]
theorem tkVs_c {c : Cx} {q : List UInt8} {n d : Nat} : ∀ (r k : Nat) (m : Mb) (s : St) (a : Nat) {y : Mb × St} {a1 : Nat}, tkVs c q n d r k m s a = .ok y a1 → cdl y.1 = cdl m
  | 0, k, m, s, a, y, a1, h => by
    simp only [tkVs] at h
    injection h with e1 _
    rw [← e1]
  | r + 1, k, m, s, a, y, a1, h => by
    simp only [tkVs] at h
    obtain ⟨x, a2, h1, h⟩ := Rr.bind_eq h
    rw [tkVs_c r (k + 1) x.1 x.2 a2 h, tkVc_c h1]
theorem tkDs_c {c : Cx} {q : List UInt8} {n : Nat} : ∀ (r d : Nat) (m : Mb) (s : St) (a : Nat) {y : Mb × St} {a1 : Nat}, tkDs c q n r d m s a = .ok y a1 → cdl y.1 = cdl m
  | 0, d, m, s, a, y, a1, h => by
    simp only [tkDs] at h
    injection h with e1 _
    rw [← e1]
  | r + 1, d, m, s, a, y, a1, h => by
    simp only [tkDs] at h
    obtain ⟨x, a2, h1, h⟩ := Rr.bind_eq h
    rw [tkDs_c r (d + 1) x.1 x.2 a2 h]
    unfold tkDr at h1
    split at h1
    · exact tkVs_c _ _ _ _ _ h1
    · injection h1 with e1 _
      rw [← e1]
theorem tkPr_c {c : Cx} {q : List UInt8} {n : Nat} {m : Mb} {s : St} {a : Nat} {y : Mb × St} {a1 : Nat} (h : tkPr c q n m s a = .ok y a1) : cdl y.1 = cdl m := by
  unfold tkPr at h
  split at h
  · obtain ⟨m', a2, h1, h⟩ := Rr.bind_eq h
    rw [tkDs_c _ _ _ _ _ h]
    split at h1
    · obtain ⟨b, a5, _, h1⟩ := Rr.bind_eq h1
      injection h1 with e1 _
      rw [← e1]; rfl
    · injection h1 with e1 _
      rw [e1]
  · injection h with e1 _
    rw [← e1]
theorem tkLv_none {q : List UInt8} {n : Nat} {m : Mb} (hm : cdl m = [false, false, false, false, false, false]) (s : St) (a : Nat) : tkLv q n 6 m s a = .ok (m, s) a := by
  simp only [tkLv, hm]
  rfl
theorem tkCh_alc (c : Cx) (q : List UInt8) (n : Nat) (m : Mb) (s : St) (a : Nat) : tkCh c q n true (alc m) s a = (tkCh c q n true m s a).bind fun z a => .ok (alc z.1, z.2) a := by
  unfold tkCh
  rw [if_pos rfl, if_pos rfl]
  cases hb : bcx c with
  | false =>
    rw [if_neg (by decide), if_neg (by decide), Rr.bind_ok, Rr.bind_ok, Rr.bind_bind]
    congr 1
    funext d a2
    split <;> rfl
  | true =>
    rw [if_pos rfl, if_pos rfl]
    simp only [Rr.bind_bind, Rr.bind_ok]
    congr 1
    funext b a1
    congr 1
    funext d a2
    split <;> rfl
theorem tkCf_alc (q : List UInt8) (n : Nat) (m : Mb) (a : Nat) : tkCf q n 6 (alc m) a = tkCf q n 6 m a := by
  simp only [tkCf]
  congr 1
/-- What the reference reads after the kind. -/
def refR (c : Cx) (q : List UInt8) (n : Nat) (m : Mb) (hl : Bool) (s : St) (a : Nat) : Rr (Mb × St) := (tkPr c q n (uncd m) (aft s m.k) a).bind fun y a2 => if hl then tkBd c q n (alc y.1) y.2 a2 else .ok y a2
theorem tkKd_is {c : Cx} {q : List UInt8} {n a : Nat} {m : Mb} {hl : Bool} {a1 : Nat} (h : tkKd c q n a = .ok (m, hl) a1) : (m = inMb ∧ hl = true) ∨ (m = zMb ∧ hl = false) ∨ ∃ v, m = peMb v := by
  unfold tkKd at h
  split at h
  · injection h with e _
    injection e with e1 e2
    exact .inl ⟨e1.symm, e2.symm⟩
  · obtain ⟨v, a2, _, h⟩ := Rr.bind_eq h
    generalize (if c.t = 2 then 3 else 7 : Nat) = last at h
    split at h
    · cases h
    · split at h
      · injection h with e _
        injection e with e1 e2
        exact .inl ⟨e1.symm, e2.symm⟩
      · split at h
        · injection h with e _
          injection e with e1 e2
          exact .inr (.inl ⟨e1.symm, e2.symm⟩)
        · injection h with e _
          injection e with e1 e2
          exact .inr (.inr ⟨v, e1.symm⟩)
theorem tkCh_k {c : Cx} {q : List UInt8} {n : Nat} {hl : Bool} {m : Mb} {s : St} {a : Nat} {y : Mb × St} {a1 : Nat} (h : tkCh c q n hl m s a = .ok y a1) : y.1.k = m.k := by
  unfold tkCh at h
  split at h
  · obtain ⟨m', a2, h1, h⟩ := Rr.bind_eq h
    obtain ⟨d, a3, _, h⟩ := Rr.bind_eq h
    split at h
    · injection h with e _
      rw [← e]
      show m'.k = m.k
      split at h1
      · obtain ⟨b, a4, _, h1⟩ := Rr.bind_eq h1
        injection h1 with e1 _
        rw [← e1]
      · injection h1 with e1 _
        rw [e1]
    · cases h
  · injection h with e _
    rw [← e]
theorem body_eq (c : Cx) (q : List UInt8) (n : Nat) (m : Mb) (s : St) (a : Nat) (hk : m.k = 1 ∨ m.k = 2) (hc : m.k = 1 → alc m = m) (ha : a ≤ n) (hml : m.lv.length = 384) :
    tkBd c q n (alc m) (aft s m.k) a = (tkCh c q n true m s a).bind fun z a3 => (tkCo q n true z.1 a3).bind fun m a4 => (tkLv q n 6 m z.2 a4).bind fun w a5 => .ok (w.1, aft w.2 w.1.k) a5 := by
  have key : ∀ (z : Mb × St) (a2 : Nat), z.1.lv.length = 384 → z.1.k = m.k → a2 ≤ n → ((tkCo q n true z.1 a2).bind fun m' a4 => tkLv q n 6 m' (aft z.2 m.k) a4) = (tkCo q n true z.1 a2).bind fun m' a4 => (tkLv q n 6 m' z.2 a4).bind fun w a5 => .ok (w.1, aft w.2 w.1.k) a5 := by
    intro z a2 hzl hzk hz
    cases h2 : tkCo q n true z.1 a2 with
    | er e a3 => rfl
    | ok m4 a3 =>
      obtain ⟨c1, c2, c3⟩ := tkCo_b h2 hz
      rw [Rr.bind_ok, Rr.bind_ok, tkLv_aft q n 6 m4 z.2 m.k a3 (by omega), amap]
      cases h3 : tkLv q n 6 m4 z.2 a3 with
      | er e a4 => rfl
      | ok w a4 =>
        have := (tkLv_b 6 m4 z.2 a3 h3 c1 (by omega) (by rw [c2]; exact hzl)).2.2
        rw [Rr.bind_ok, Rr.bind_ok, this, c3, hzk]
  rcases hk with e | e
  · rw [hc e]
    unfold tkBd
    rw [tkCh_aft, amap, Rr.bind_bind]
    cases h1 : tkCh c q n true m s a with
    | er e a2 => rfl
    | ok z a2 =>
      obtain ⟨b1, b2, _⟩ := tkCh_b h1 ha
      simp only [Rr.bind_ok]
      exact key z a2 (by rw [b2]; exact hml) (tkCh_k h1) b1
  · unfold tkBd
    rw [tkCh_alc, tkCh_aft, amap, Rr.bind_bind, Rr.bind_bind]
    cases h1 : tkCh c q n true m s a with
    | er e a2 => rfl
    | ok z a2 =>
      obtain ⟨b1, b2, _⟩ := tkCh_b h1 ha
      simp only [Rr.bind_ok]
      have e2 : z.1.k = 2 := by rw [tkCh_k h1, e]
      have hco : tkCo q n true (alc z.1) a2 = tkCo q n true z.1 a2 := by
        unfold tkCo
        rw [show (alc z.1).k = 2 from e2, e2, tkCf_alc]
        rfl
      rw [hco]
      exact key z a2 (by rw [b2]; exact hml) (tkCh_k h1) b1
theorem ref_eq {c : Cx} {q : List UInt8} {n a a1 : Nat} {m : Mb} {hl : Bool} {s : St} (h : tkKd c q n a = .ok (m, hl) a1) (ha : a ≤ n) (hs : vrS s) : refR c q n m hl s a1 = tkRs c q n hl m s a1 := by
  obtain ⟨ha1, hlv⟩ := tkKd_b h ha
  have hml : m.lv.length = 384 := by rw [show m.lv = zl384 from hlv]; exact zl384_len
  unfold refR tkRs
  rcases tkKd_is h with ⟨rfl, rfl⟩ | ⟨rfl, rfl⟩ | ⟨v, rfl⟩
  · have e1 : tkPr c q n (uncd inMb) (aft s inMb.k) a1 = .ok (uncd inMb, aft s inMb.k) a1 := rfl
    have e2 : tkPr c q n inMb s a1 = .ok (inMb, s) a1 := rfl
    rw [e1, e2, Rr.bind_ok, Rr.bind_ok, if_pos rfl]
    exact body_eq c q n inMb s a1 (.inl rfl) (fun _ => rfl) ha1 hml
  · have e1 : tkPr c q n (uncd zMb) (aft s zMb.k) a1 = .ok (uncd zMb, aft s zMb.k) a1 := rfl
    have e2 : tkPr c q n zMb s a1 = .ok (zMb, s) a1 := rfl
    have e3 : tkCh c q n false zMb s a1 = .ok (zMb, s) a1 := rfl
    have e4 : tkCo q n false zMb a1 = .ok zMb a1 := rfl
    rw [e1, e2, Rr.bind_ok, Rr.bind_ok, if_neg (by decide), e3, Rr.bind_ok, e4, Rr.bind_ok, tkLv_none rfl, Rr.bind_ok]
    rfl
  · rw [show uncd (peMb v) = peMb v from rfl, tkPr_aft, amap, Rr.bind_bind]
    cases hp : tkPr c q n (peMb v) s a1 with
    | er e a2 => rfl
    | ok y a2 =>
      obtain ⟨b1, b2, b3, _⟩ := tkPr_b hp ha1 hs
      have hcd := tkPr_c hp
      simp only [Rr.bind_ok]
      rw [← b3]
      cases hl with
      | true =>
        rw [if_pos rfl]
        exact body_eq c q n y.1 y.2 a2 (.inr b3) (fun e => by rw [b3] at e; cases e) b1 (by rw [b2]; exact hml)
      | false =>
        have e3 : tkCh c q n false y.1 y.2 a2 = .ok y a2 := rfl
        have e4 : tkCo q n false y.1 a2 = .ok y.1 a2 := by unfold tkCo; rw [Bool.and_false, if_neg (by decide)]
        rw [if_neg (by decide), e3, Rr.bind_ok, e4, Rr.bind_ok, tkLv_none hcd, Rr.bind_ok]

end Go.Proofs.Ytcabpncdgagihaa.Sc

namespace Go.Proofs.Ytcabpncdgagihaa.Sc
set_option linter.all false
set_option linter.unusedVariables false
set_option linter.unusedSimpArgs false
open Pm Ty Go.RowKit

def mtkU (H : Heap) (i j v n : Nat) (x : Rr (Mb × St)) : PV → Heap → Prop := fun w H' => w = rvM x ∧
  match x with
  | .ok _ a => H' = H.set i (rR j v n a)
  | .er _ _ => ∃ a, a ≤ n ∧ H' = H.set i (rR j v n a)
theorem tk_outU (H : Heap) (i j v n a : Nat) (K : Heap) (x : Rr (Mb × St)) (hj : j < H.length) (hx : match x with | .ok _ a' => a = a' | .er _ _ => a ≤ n) : Outs H (mtkU H i j v n x) (rvM x) (H.set i (rR j v n a) ++ K) :=
  .inr (.inr fun hs => ⟨rvM x, H.set i (rR j v n a), by
    cases x with
    | ok y a' => exact ⟨rfl, by rw [show a = a' from hx]⟩
    | er e a' => exact ⟨rfl, a, hx, rfl⟩, by simp, CutH.base (hsc_rR _ _ _ _ _ _ hj hs), .id (rvM_sc _ _)⟩)
theorem uG_gX (H : Heap) (i j v n a : Nat) (X : Heap) (B4 B5 : Blk) (K : Heap) (k : Nat) (hX : X.length = 4) (hk : k < 4) : (uG H i j v n a X B4 B5 K)[H.length + k]? = X[k]? := by
  unfold uG
  rw [List.getElem?_append_right (by simp), List.length_set, show H.length + k - H.length = k by omega, List.getElem?_append_left (by omega)]
theorem uG_sX (H : Heap) (i j v n a : Nat) (X : Heap) (B4 B5 : Blk) (K : Heap) (B : Blk) (k : Nat) (hX : X.length = 4) (hk : k < 4) : (uG H i j v n a X B4 B5 K).set (H.length + k) B = uG H i j v n a (X.set k B) B4 B5 K := by
  unfold uG
  rw [List.set_append_right _ _ (by simp), List.length_set, show H.length + k - H.length = k by omega, List.set_append_left _ _ (by omega)]
theorem tkBd_b {c : Cx} {q : List UInt8} {n : Nat} {m : Mb} {s : St} {a : Nat} {y : Mb × St} {a1 : Nat} (h : tkBd c q n m s a = .ok y a1) (ha : a ≤ n) (hml : m.lv.length = 384) : a1 ≤ n ∧ y.1.lv.length = 384 := by
  unfold tkBd at h
  obtain ⟨z, a2, h1, h⟩ := Rr.bind_eq h
  obtain ⟨m4, a3, h2, h⟩ := Rr.bind_eq h
  obtain ⟨b1, b2, _⟩ := tkCh_b h1 ha
  obtain ⟨c1, c2, _⟩ := tkCo_b h2 b1
  obtain ⟨d1, d2, _⟩ := tkLv_b 6 m4 z.2 a3 h c1 (by omega) (by rw [c2, b2]; exact hml)
  exact ⟨d1, d2⟩
theorem dcR_aft {s : St} (h : dcR s) (k : Int) : dcR (aft s k) := fun p => by
  have h0 : -4095 ≤ s.da ∧ s.da ≤ 4095 := h 0
  have h1 : -4095 ≤ s.db ∧ s.db ≤ 4095 := h 1
  have h2 : -4095 ≤ s.dc ∧ s.dc ≤ 4095 := h 2
  unfold dcS aft
  dsimp only
  by_cases hk : k = 1
  · simp only [if_pos hk]
    split
    · exact h0
    · split
      · exact h1
      · exact h2
  · simp only [if_neg hk]
    split
    · omega
    · split <;> omega
set_option maxHeartbeats 8000000 in
set_option maxRecDepth 100000 in
theorem take_ref (i j v : Nat) (q : List UInt8) (n a : Nat) (c : Cx) (s : St) (H : Heap) (hA : H[i]? = some (rR j v n a)) (hB : H[j]? = some (rB q v)) (hne : i ≠ j) (ha : a ≤ n) (hn : n ≤ 8 * q.length) (hq : q.length ≤ 100000000) :
    CallEx Try.prog 111 [.ptr i 0 0, .agg (cxc c), .agg (stc s)] H (mtkU H i j v n (mtkA c s q n a)) := by
  have hi := (List.getElem?_eq_some_iff.1 hA).1
  have hj := (List.getElem?_eq_some_iff.1 hB).1
  have hself := set_self hA
  have c1 := cxc_cell c
  have c2 := stc_cell s
  have vo := fun K => vcx_ref c K
  have so := fun K => vst_ref s K
  have tk1 : List.take 4 (cxc c) = cxc c := rfl
  have tk2 : List.take 8 (stc s) = stc s := rfl
  have l1 : (cxc c).length = 4 := rfl
  have l2 : (stc s).length = 8 := rfl
  have hzl := zmv_len
  have hzc := zmv_cell
  have tz : List.take 408 zmv = zmv := List.take_of_length_le (by omega)
  have dz : List.drop 408 zmv = [] := List.drop_of_length_le (by omega)
  generalize hres : mtkA c s q n a = res
  refine CallEx.body (F0 := [(0, .ptr i 0 0), (1, .agg (cxc c)), (2, .agg (stc s))]) Try.func111 rfl Try.ntmps111 Try.results111 rfl (by kernel_rfl) rfl ?_
  (repeat refine PW.seq ?_); refine PW.rg rfl fun K hK => ?_; simp (maxSteps := 3000000) (disch := omega) only [go_sem, ↓reduceIte, reduceCtorEq, pappend, plen, c1, c2, ↓zcMb, Nat.reduceAdd]; refine hK _ _ ?_; clear hK K
  unfold mtkA at hres
  suffices hrest : PW Try.prog _ _ [(0, .ptr i 0 0), (4, .ptr H.length 0 0), (5, .ptr (H.length + 1) 0 0), (6, .ptr (H.length + 2) 0 0), (7, .ptr (H.length + 3) 0 0), (20, .bool (!(vcx c && vstB s)))] (H ++ [⟨23, 0, cxc c⟩, ⟨29, 0, stc s⟩, ⟨49, 0, zmv⟩, ⟨29, 0, stc zSt⟩]) _ by
    cases hv : vcx c with
    | false =>
      rw [hv] at vo hrest
      (repeat refine PW.seq ?_); refine PW.rg rfl fun K hK => ?_; simp (maxSteps := 3000000) (disch := omega) only [go_sem, ↓reduceIte, reduceCtorEq, pappend, plen, tk1, l1]
      refine VCx.call (vo _) rfl ?_; simp (maxSteps := 3000000) (disch := omega) only [go_sem, ↓reduceIte, reduceCtorEq, pappend, plen]; refine hK _ _ ?_; clear hK K
      exact PW.at [0, 4, 5, 6, 7, 20] hrest rfl rfl
    | true =>
      rw [hv] at vo hrest
      (repeat refine PW.seq ?_); refine PW.rg rfl fun K hK => ?_; simp (maxSteps := 3000000) (disch := omega) only [go_sem, ↓reduceIte, reduceCtorEq, pappend, plen, tk1, l1]
      refine VCx.call (vo _) rfl ?_; simp (maxSteps := 3000000) (disch := omega) only [go_sem, ↓reduceIte, reduceCtorEq, pappend, plen, tk2, l2]
      refine VCx.call (so _) rfl ?_; simp (maxSteps := 3000000) (disch := omega) only [go_sem, ↓reduceIte, reduceCtorEq, pappend, plen]; refine hK _ _ ?_; clear hK K
      exact PW.at [0, 4, 5, 6, 7, 20] hrest rfl rfl
  cases hval : (vcx c && vstB s) with
  | false =>
    rw [hval, if_neg (by decide)] at hres
    (repeat refine PW.seq ?_); refine PW.cond (t := _) rfl (fun h => ?_) (fun h => ?_)
    rotate_left
    · cases h
    (repeat refine PW.seq ?_); refine PW.rg rfl fun K hK => ?_; simp (maxSteps := 3000000) (disch := omega) only [go_sem, ↓reduceIte, reduceCtorEq, pappend, plen, ↓zcMb, hzl, hzc, tz, dz, stc]; refine hK _ _ ?_; clear hK K
    refine PW.ret ⟨.tup [.agg zmv, .agg (stc zSt), .int .i64 1], by simp (maxSteps := 3000000) (disch := omega) only [go_sem, ↓reduceIte, reduceCtorEq, pappend, plen, presults, presult, List.mapM_cons, List.mapM_nil, Option.pure_def, Option.bind_eq_bind, Option.bind_some, Array.toList, hzl, tz, stc, zSt], ?_⟩
    rw [← hres]
    have := tk_outU H i j v n a [⟨23, 0, cxc c⟩, ⟨29, 0, stc s⟩, ⟨49, 0, zmv⟩, ⟨29, 0, stc zSt⟩] (.er 0 a) hj ha
    rw [hself] at this
    exact this
  | true =>
    rw [hval, if_pos rfl] at hres
    rw [Bool.and_eq_true] at hval
    obtain ⟨hsq, hv, hd⟩ := vst_b hval.2
    (repeat refine PW.seq ?_); refine PW.cond (t := _) rfl (fun h => ?_) (fun h => ?_)
    · cases h
    refine PW.skip ?_
    (repeat refine PW.seq ?_)
    refine PW.view (Vs.place 49) ?_
    refine PW.view (Vs.place 29) ?_
    refine PW.eq rfl (show _ = H ++ [⟨23, 0, cxc c⟩, ⟨29, 0, stc s⟩, ⟨49, 0, zmv⟩, ⟨29, 0, stc zSt⟩, ⟨49, 0, []⟩, ⟨29, 0, []⟩] by simp) ?_
    have s0 : (stc s)[0]? = some (.int .i64 s.q) := rfl
    (repeat refine PW.seq ?_); refine PW.drawi [H.length + 4, H.length + 5] [(9, [0]), (10, [1])] [(9, 0), (10, 1)] [] mix (by kernel_rfl) (by simp <;> omega) fun K hK => ?_
    simp (maxSteps := 3000000) (disch := omega) only [go_sem, ↓reduceIte, reduceCtorEq, pappend, plen, ↓zcMb, apn, aps, s0, hzl, hzc, dz, stc, Nat.reduceAdd]
    refine hK _ _ ?_; clear hK K
    obtain ⟨X, hXe⟩ : ∃ X : Heap, X = [⟨23, 0, cxc c⟩, ⟨29, 0, stc s⟩, ⟨49, 0, zmv⟩, ⟨29, 0, stc zSt⟩] := ⟨_, rfl⟩
    have hX : X.length = 4 := by rw [hXe]; rfl
    refine PW.at [0, 4, 5, 6, 7, 9, 10] (F1 := [(0, .ptr i 0 0), (4, .ptr H.length 0 0), (5, .ptr (H.length + 1) 0 0), (6, .ptr (H.length + 2) 0 0), (7, .ptr (H.length + 3) 0 0), (9, .ptr (H.length + 4) 1 0), (10, .ptr (H.length + 5) 1 0)]) (H1 := uG H i j v n a X (mW zMb) (sB (aft s 0)) []) ?_ rfl (by unfold uG; rw [hself, hXe]; rfl)
    have hX0 : X[0]? = some ⟨23, 0, cxc c⟩ := by rw [hXe]; rfl
    have hX1 : X[1]? = some ⟨29, 0, stc s⟩ := by rw [hXe]; rfl
    have hX2 : X[2]? = some ⟨49, 0, zmv⟩ := by rw [hXe]; rfl
    have hX3 : X[3]? = some ⟨29, 0, stc zSt⟩ := by rw [hXe]; rfl
    have gx := fun a B4 B5 k hk => uG_gX H i j v n a X B4 B5 [] k hX hk
    have g0 := fun a B4 B5 => (gx a B4 B5 0 (by omega)).trans hX0
    have kr := kind_ref H i j v q n a X c (aft s 0) hi hB hne hX ha hn hq
    have g0 := fun a B4 B5 => by simpa using (gx a B4 B5 0 (by omega)).trans hX0
    have g1 := fun a B4 B5 => (gx a B4 B5 1 (by omega)).trans hX1
    have g5 := fun a B4 B5 => uG_5 H i j v n a X B4 B5 [] hX
    have g4 := fun a B4 B5 => uG_4 H i j v n a X B4 B5 [] hX
    have s5 := fun a B4 B5 B => uG_s5 H i j v n a X B4 B5 [] hX B
    unfold mtk at hres
    -- R12: the end
    suffices h12 : ∀ (m' : Mb) (s' : St) (a' : Nat) (e : Int), a' ≤ n → m'.lv.length = 384 → ((e = 0 ∧ res = .ok (m', s') a') ∨ ∃ (e' a0 : Nat), e = (e' : Int) + 1 ∧ res = .er e' a0) →
        PW Try.prog _ _ [(6, .ptr (H.length + 2) 0 0), (7, .ptr (H.length + 3) 0 0), (9, .ptr (H.length + 4) 1 0), (10, .ptr (H.length + 5) 1 0), (12, .int .i64 e)] (uG H i j v n a' X (mW m') (sB s') []) _ by
      suffices h10 : ∀ (m' : Mb) (s' : St) (hl : Bool) (a' : Nat), a' ≤ n → m'.lv.length = 384 → dcR s' → (1 ≤ s'.q ∧ s'.q ≤ 31) → (hl = true → m'.k = 1 ∨ m'.k = 2) → (if hl then tkBd c q n (alc m') s' a' else .ok (m', s') a') = res →
          PW Try.prog _ _ [(0, .ptr i 0 0), (4, .ptr H.length 0 0), (6, .ptr (H.length + 2) 0 0), (7, .ptr (H.length + 3) 0 0), (9, .ptr (H.length + 4) 1 0), (10, .ptr (H.length + 5) 1 0), (11, .bool hl), (12, .int .i64 0)] (uG H i j v n a' X (mW m') (sB s') []) _ by
        cases hkd : tkKd c q n a with
        | er e a1 =>
          rw [hkd] at kr hres
          rw [Rr.bind_er] at hres
          have d0 : ((e : Int) + 1 == 0) = false := by simp; omega
          simp only [rvK, mKd] at kr
          (repeat refine PW.seq ?_); refine PW.rg rfl fun K hK => ?_; simp (maxSteps := 3000000) (disch := omega) only [go_sem, ↓reduceIte, reduceCtorEq, pappend, plen, g0, l1, tk1]
          refine VCx.call (kr) rfl ?_; simp (maxSteps := 3000000) (disch := omega) only [go_sem, ↓reduceIte, reduceCtorEq, pappend, plen]; refine hK _ _ ?_; clear hK K
          (repeat refine PW.seq ?_); refine PW.rg rfl fun K hK => ?_; simp (maxSteps := 3000000) (disch := omega) only [go_sem, ↓reduceIte, reduceCtorEq, pappend, plen, d0]; refine hK _ _ ?_; clear hK K
          (repeat refine PW.seq ?_); refine PW.cond (t := _) rfl (fun h => ?_) (fun h => ?_)
          · cases h
          refine PW.skip ?_
          (repeat refine PW.seq ?_); refine PW.rg rfl fun K hK => ?_; simp (maxSteps := 3000000) (disch := omega) only [go_sem, ↓reduceIte, reduceCtorEq, pappend, plen, d0]; refine hK _ _ ?_; clear hK K
          (repeat refine PW.seq ?_); refine PW.cond (t := _) rfl (fun h => ?_) (fun h => ?_)
          · cases h
          refine PW.skip ?_
          (repeat refine PW.seq ?_); refine PW.rg rfl fun K hK => ?_; simp (maxSteps := 3000000) (disch := omega) only [go_sem, ↓reduceIte, reduceCtorEq, pappend, plen, d0]; refine hK _ _ ?_; clear hK K
          (repeat refine PW.seq ?_); refine PW.cond (t := _) rfl (fun h => ?_) (fun h => ?_)
          · cases h
          refine PW.skip ?_
          exact PW.at [6, 7, 9, 10, 12] (h12 zMb (aft s 0) a1 _ (tkKd_e hkd ha) zl384_len (.inr ⟨e, a1, rfl, hres.symm⟩)) rfl rfl
        | ok x a1 =>
          obtain ⟨m, hl⟩ := x
          obtain ⟨ha1, hlv⟩ := tkKd_b hkd ha
          have hml : (uncd m).lv.length = 384 := by rw [show (uncd m).lv = zl384 from hlv]; exact zl384_len
          have hre := ref_eq hkd ha hv
          rw [hkd] at kr hres
          rw [Rr.bind_ok] at hres
          dsimp only at hres
          rw [← hre] at hres
          unfold refR at hres
          simp only [rvK, mKd] at kr
          have dv := fun k => dcR_aft hd k
          (repeat refine PW.seq ?_); refine PW.rg rfl fun K hK => ?_; simp (maxSteps := 3000000) (disch := omega) only [go_sem, ↓reduceIte, reduceCtorEq, pappend, plen, g0, l1, tk1]
          refine VCx.call (kr) rfl ?_; simp (maxSteps := 3000000) (disch := omega) only [go_sem, ↓reduceIte, reduceCtorEq, pappend, plen]; refine hK _ _ ?_; clear hK K
          have hkl : hl = true → m.k = 1 ∨ m.k = 2 := fun e => by
            rcases tkKd_is hkd with ⟨rfl, rfl⟩ | ⟨rfl, rfl⟩ | ⟨v, rfl⟩
            · exact .inl rfl
            · cases e
            · exact .inr rfl
          have mk : (mbc (uncd m))[0]? = some (.int .i64 m.k) := rfl
          have gs4 : List.take 4 (List.drop 4 (stc s)) = [.int .i64 s.va, .int .i64 s.vb, .int .i64 s.vc, .int .i64 s.vd] := rfl
          have gs3 : List.take 3 (List.drop 1 (stc s)) = [.int .i64 s.da, .int .i64 s.db, .int .i64 s.dc] := rfl
          have ls : ∀ t, (stc t).length = 8 := fun _ => rfl
          by_cases hk2 : m.k = 2
          · have dk : (m.k == 2) = true := by simp [hk2]
            have dk1 : (m.k == 1) = false := by simp [hk2]
            have st4 : List.take 4 (stc (aft s 0)) ++ .int .i64 s.va :: .int .i64 s.vb :: .int .i64 s.vc :: .int .i64 s.vd :: List.drop 8 (stc (aft s 0)) = stc (aft s 2) := rfl
            rw [hk2] at hres
            have va : vrS (aft s 2) := fun d => by rw [aft2_X, aft2_Y]; exact hv d
            have vr := vecs_ref H i j v q n X c hi hB hne hX hn hq (uncd m) (aft s 2) a1 hml va ha1 hk2
            (repeat refine PW.seq ?_); refine PW.rg rfl fun K hK => ?_; simp (maxSteps := 3000000) (disch := omega) only [go_sem, ↓reduceIte, reduceCtorEq, pappend, plen, g4, mW_v, mW_c, mk, dk]; refine hK _ _ ?_; clear hK K
            (repeat refine PW.seq ?_); refine PW.cond (t := _) rfl (fun h => ?_) (fun h => ?_)
            rotate_left
            · cases h
            (repeat refine PW.seq ?_); refine PW.rg rfl fun K hK => ?_; simp (maxSteps := 3000000) (disch := omega) only [go_sem, ↓reduceIte, reduceCtorEq, pappend, plen, g1, g5, s5, sB_v, sB_c, sB_e, gs4, ls, st4, sB_of, Nat.reduceAdd]; refine hK _ _ ?_; clear hK K
            (repeat refine PW.seq ?_); refine PW.rg rfl fun K hK => ?_; simp (maxSteps := 3000000) (disch := omega) only [go_sem, ↓reduceIte, reduceCtorEq, pappend, plen, g0, l1, tk1]
            refine VCx.callR vr rfl fun w H' hR => ?_
            cases htp : tkPr c q n (uncd m) (aft s 2) a1 with
            | er e a2 =>
              rw [htp] at hR hres
              obtain ⟨rfl, a4, m4, s4', h1, h2, rfl⟩ := hR
              rw [Rr.bind_er] at hres
              have d0 : ((e : Int) + 1 == 0) = false := by simp; omega
              simp (maxSteps := 3000000) (disch := omega) only [go_sem, ↓reduceIte, reduceCtorEq, pappend, plen, ecd]; refine hK _ _ ?_; clear hK K
              (repeat refine PW.seq ?_); refine PW.rg rfl fun K hK => ?_; simp (maxSteps := 3000000) (disch := omega) only [go_sem, ↓reduceIte, reduceCtorEq, pappend, plen, d0]; refine hK _ _ ?_; clear hK K
              (repeat refine PW.seq ?_); refine PW.cond (t := _) rfl (fun h => ?_) (fun h => ?_)
              · cases h
              refine PW.skip ?_
              (repeat refine PW.seq ?_); refine PW.rg rfl fun K hK => ?_; simp (maxSteps := 3000000) (disch := omega) only [go_sem, ↓reduceIte, reduceCtorEq, pappend, plen, d0]; refine hK _ _ ?_; clear hK K
              (repeat refine PW.seq ?_); refine PW.cond (t := _) rfl (fun h => ?_) (fun h => ?_)
              · cases h
              refine PW.skip ?_
              exact PW.at [6, 7, 9, 10, 12] (h12 m4 s4' a4 _ h1 h2 (.inr ⟨e, a2, rfl, hres.symm⟩)) rfl rfl
            | ok y a2 =>
              obtain ⟨b1, b2, b3, b4⟩ := tkPr_b htp ha1 va
              rw [htp] at hR hres
              obtain ⟨rfl, rfl⟩ := hR
              rw [Rr.bind_ok] at hres
              have yk : y.1.k = 2 := by rw [b3]; exact hk2
              have dy1 : (y.1.k == 1) = false := by rw [yk]; rfl
              simp (maxSteps := 3000000) (disch := omega) only [go_sem, ↓reduceIte, reduceCtorEq, pappend, plen]; refine hK _ _ ?_; clear hK K
              (repeat refine PW.seq ?_); refine PW.rg rfl fun K hK => ?_; simp (maxSteps := 3000000) (disch := omega) only [go_sem, ↓reduceIte, reduceCtorEq, pappend, plen, g4, mW_v, mW_c, mbc_k, dy1]; refine hK _ _ ?_; clear hK K
              (repeat refine PW.seq ?_); refine PW.cond (t := _) rfl (fun h => ?_) (fun h => ?_)
              · cases h
              refine PW.skip ?_
              exact PW.at [0, 4, 6, 7, 9, 10, 11, 12] (h10 y.1 y.2 hl a2 b1 (by rw [b2]; exact hml) (dcR_same b4 (dv 2)) (by rw [b4.1]; exact hsq) (fun _ => .inr yk) hres) rfl rfl
          have dk : (m.k == 2) = false := by simp [hk2]
          have ep : ∀ t, tkPr c q n (uncd m) t a1 = .ok (uncd m, t) a1 := fun t => by unfold tkPr; rw [if_neg (show ¬ (uncd m).k = 2 from hk2)]
          rw [ep, Rr.bind_ok] at hres
          (repeat refine PW.seq ?_); refine PW.rg rfl fun K hK => ?_; simp (maxSteps := 3000000) (disch := omega) only [go_sem, ↓reduceIte, reduceCtorEq, pappend, plen, g4, mW_v, mW_c, mk, dk]; refine hK _ _ ?_; clear hK K
          (repeat refine PW.seq ?_); refine PW.cond (t := _) rfl (fun h => ?_) (fun h => ?_)
          · cases h
          refine PW.skip ?_
          by_cases hk1 : m.k = 1
          · have dk1 : (m.k == 1) = true := by simp [hk1]
            have st3 : List.take 1 (stc (aft s 0)) ++ .int .i64 s.da :: .int .i64 s.db :: .int .i64 s.dc :: List.drop 4 (stc (aft s 0)) = stc (aft s 1) := rfl
            rw [hk1] at hres
            (repeat refine PW.seq ?_); refine PW.rg rfl fun K hK => ?_; simp (maxSteps := 3000000) (disch := omega) only [go_sem, ↓reduceIte, reduceCtorEq, pappend, plen, g4, mW_v, mW_c, mk, dk1]; refine hK _ _ ?_; clear hK K
            (repeat refine PW.seq ?_); refine PW.cond (t := _) rfl (fun h => ?_) (fun h => ?_)
            rotate_left
            · cases h
            (repeat refine PW.seq ?_); refine PW.rg rfl fun K hK => ?_; simp (maxSteps := 3000000) (disch := omega) only [go_sem, ↓reduceIte, reduceCtorEq, pappend, plen, g1, g5, s5, sB_v, sB_c, sB_e, gs3, ls, st3, sB_of, Nat.reduceAdd]; refine hK _ _ ?_; clear hK K
            exact PW.at [0, 4, 6, 7, 9, 10, 11, 12] (h10 (uncd m) (aft s 1) hl a1 ha1 hml (dv 1) hsq hkl hres) rfl rfl
          · have dk1 : (m.k == 1) = false := by simp [hk1]
            have e0 : aft s m.k = aft s 0 := by unfold aft; rw [if_neg hk1, if_neg hk1, if_neg hk1, if_neg hk2, if_neg hk2, if_neg hk2, if_neg hk2]; rfl
            rw [e0] at hres
            (repeat refine PW.seq ?_); refine PW.rg rfl fun K hK => ?_; simp (maxSteps := 3000000) (disch := omega) only [go_sem, ↓reduceIte, reduceCtorEq, pappend, plen, g4, mW_v, mW_c, mk, dk1]; refine hK _ _ ?_; clear hK K
            (repeat refine PW.seq ?_); refine PW.cond (t := _) rfl (fun h => ?_) (fun h => ?_)
            · cases h
            refine PW.skip ?_
            exact PW.at [0, 4, 6, 7, 9, 10, 11, 12] (h10 (uncd m) (aft s 0) hl a1 ha1 hml (dv 0) hsq hkl hres) rfl rfl
      clear hres kr
      intro m' s' hl a' ha' hml' hd' hq' hkl hres
      cases hl with
      | false =>
        rw [if_neg (by decide)] at hres
        (repeat refine PW.seq ?_); refine PW.rg rfl fun K hK => ?_; simp (maxSteps := 3000000) (disch := omega) only [go_sem, ↓reduceIte, reduceCtorEq, pappend, plen]; refine hK _ _ ?_; clear hK K
        (repeat refine PW.seq ?_); refine PW.cond (t := _) rfl (fun h => ?_) (fun h => ?_)
        · cases h
        refine PW.skip ?_
        exact PW.at [6, 7, 9, 10, 12] (h12 m' s' a' 0 ha' hml' (.inl ⟨rfl, hres.symm⟩)) rfl rfl
      | true =>
        rw [if_pos rfl] at hres
        have br := body_ref H i j v q n X c hi hB hne hX hn hq m' s' a' hml' hd' hq' ha' (hkl rfl)
        (repeat refine PW.seq ?_); refine PW.rg rfl fun K hK => ?_; simp (maxSteps := 3000000) (disch := omega) only [go_sem, ↓reduceIte, reduceCtorEq, pappend, plen]; refine hK _ _ ?_; clear hK K
        (repeat refine PW.seq ?_); refine PW.cond (t := _) rfl (fun h => ?_) (fun h => ?_)
        rotate_left
        · cases h
        (repeat refine PW.seq ?_); refine PW.rg rfl fun K hK => ?_; simp (maxSteps := 3000000) (disch := omega) only [go_sem, ↓reduceIte, reduceCtorEq, pappend, plen, g0, l1, tk1]
        refine VCx.callR br rfl fun w H' hR => ?_
        cases htb : tkBd c q n (alc m') s' a' with
        | er e a2 =>
          rw [htb] at hR hres
          obtain ⟨rfl, a4, m4, s4', h1, h2, rfl⟩ := hR
          simp (maxSteps := 3000000) (disch := omega) only [go_sem, ↓reduceIte, reduceCtorEq, pappend, plen, ecd]; refine hK _ _ ?_; clear hK K
          exact PW.at [6, 7, 9, 10, 12] (h12 m4 s4' a4 _ h1 h2 (.inr ⟨e, a2, rfl, hres.symm⟩)) rfl rfl
        | ok y a2 =>
          obtain ⟨b1, b2⟩ := tkBd_b htb ha' hml'
          rw [htb] at hR hres
          obtain ⟨rfl, rfl⟩ := hR
          simp (maxSteps := 3000000) (disch := omega) only [go_sem, ↓reduceIte, reduceCtorEq, pappend, plen]; refine hK _ _ ?_; clear hK K
          exact PW.at [6, 7, 9, 10, 12] (h12 y.1 y.2 a2 0 b1 b2 (.inl ⟨rfl, hres.symm⟩)) rfl rfl
    clear hres kr
    intro m' s' a' e ha' hml' hx
    have hlm := mbc_len m' hml'
    have htm : List.take 408 (mbc m') = mbc m' := List.take_of_length_le (by omega)
    have hcm := mbc_cell m'
    have lst : ∀ t, (stc t).length = 8 := fun _ => rfl
    have tst : ∀ t, List.take 8 (stc t) = stc t := fun _ => rfl
    have cst : ∀ t, (stc t).all PV.cell = true := fun _ => rfl
    have dst : List.drop 8 (stc zSt) = [] := rfl
    have g2 := fun a B4 B5 => (gx a B4 B5 2 (by omega)).trans hX2
    have g3 := fun a B4 B5 => (gx a B4 B5 3 (by omega)).trans hX3
    rcases hx with ⟨rfl, hr⟩ | ⟨e', a0, rfl, hr⟩
    · (repeat refine PW.seq ?_); refine PW.rg rfl fun K hK => ?_; simp (maxSteps := 3000000) (disch := omega) only [go_sem, ↓reduceIte, reduceCtorEq, pappend, plen]; refine hK _ _ ?_; clear hK K
      (repeat refine PW.seq ?_); refine PW.cond (t := _) rfl (fun h => ?_) (fun h => ?_)
      · cases h
      refine PW.skip ?_
      have sx2 := fun B => uG_sX H i j v n a' X (mW m') (sB s') [] B 2 hX (by omega)
      have hX' : ∀ B, (X.set 2 B).length = 4 := fun B => by rw [List.length_set]; exact hX
      have g3' : ∀ B, (uG H i j v n a' (X.set 2 B) (mW m') (sB s') [])[H.length + 3]? = some ⟨29, 0, stc zSt⟩ := fun B => by
        rw [uG_gX _ _ _ _ _ _ _ _ _ _ _ (hX' B) (by omega), hXe]; rfl
      have sx3 := fun Y B (hY : Y.length = 4) => uG_sX H i j v n a' Y (mW m') (sB s') [] B 3 hY (by omega)
      have sx3' := fun B B' => sx3 (X.set 2 B) B' (hX' B)
      (repeat refine PW.seq ?_); refine PW.drawi [H.length + 2, H.length + 3] [(6, [0]), (7, [1])] [] [] mix (by kernel_rfl) (by simp <;> omega) fun K hK => ?_
      simp (maxSteps := 3000000) (disch := omega) only [go_sem, ↓reduceIte, reduceCtorEq, pappend, plen, g4, g5, g2, g3', sx2, sx3', mW_v, mW_c, sB_v, sB_c, hlm, htm, hzl, dz, hcm, lst, tst, cst, dst]
      refine hK _ _ ?_; clear hK K
      have hX2' : ((X.set 2 ⟨49, 0, mbc m'⟩).set 3 ⟨29, 0, stc s'⟩).length = 4 := by rw [List.length_set, List.length_set]; exact hX
      have f2 : (uG H i j v n a' ((X.set 2 ⟨49, 0, mbc m'⟩).set 3 ⟨29, 0, stc s'⟩) (mW m') (sB s') [])[H.length + 2]? = some ⟨49, 0, mbc m'⟩ := by
        rw [uG_gX _ _ _ _ _ _ _ _ _ _ _ hX2' (by omega), hXe]; rfl
      have f3 : (uG H i j v n a' ((X.set 2 ⟨49, 0, mbc m'⟩).set 3 ⟨29, 0, stc s'⟩) (mW m') (sB s') [])[H.length + 3]? = some ⟨29, 0, stc s'⟩ := by
        rw [uG_gX _ _ _ _ _ _ _ _ _ _ _ hX2' (by omega), hXe]; rfl
      refine PW.ret ⟨.tup [.agg (mbc m'), .agg (stc s'), .int .i64 0], by simp (maxSteps := 3000000) (disch := omega) only [go_sem, ↓reduceIte, reduceCtorEq, pappend, plen, presults, presult, List.mapM_cons, List.mapM_nil, Option.pure_def, Option.bind_eq_bind, Option.bind_some, Array.toList, f2, f3, hlm, htm, lst, tst], ?_⟩
      rw [hr]
      exact tk_outU H i j v n a' (((X.set 2 ⟨49, 0, mbc m'⟩).set 3 ⟨29, 0, stc s'⟩) ++ [mW m', sB s']) (.ok (m', s') a') hj rfl
    · have d0 : ((e' : Int) + 1 != 0) = true := by simp; omega
      have se1 := set_self (g2 a' (mW m') (sB s'))
      have se2 := set_self (g3 a' (mW m') (sB s'))
      (repeat refine PW.seq ?_); refine PW.rg rfl fun K hK => ?_; simp (maxSteps := 3000000) (disch := omega) only [go_sem, ↓reduceIte, reduceCtorEq, pappend, plen, d0]; refine hK _ _ ?_; clear hK K
      (repeat refine PW.seq ?_); refine PW.cond (t := _) rfl (fun h => ?_) (fun h => ?_)
      rotate_left
      · cases h
      (repeat refine PW.seq ?_); refine PW.rg rfl fun K hK => ?_; simp (maxSteps := 3000000) (disch := omega) only [go_sem, ↓reduceIte, reduceCtorEq, pappend, plen, ↓zcMb, g2, g3, hzl, hzc, dz, lst, se1]; refine hK _ _ ?_; clear hK K
      refine PW.at [6, 7, 8] (F1 := [(6, .ptr (H.length + 2) 0 0), (7, .ptr (H.length + 3) 0 0), (8, .int .i64 ((e' : Int) + 1))]) (H1 := uG H i j v n a' X (mW m') (sB s') []) ?_ rfl se2
      refine PW.ret ⟨.tup [.agg zmv, .agg (stc zSt), .int .i64 ((e' : Int) + 1)], by simp (maxSteps := 3000000) (disch := omega) only [go_sem, ↓reduceIte, reduceCtorEq, pappend, plen, presults, presult, List.mapM_cons, List.mapM_nil, Option.pure_def, Option.bind_eq_bind, Option.bind_some, Array.toList, g2, g3, hzl, tz, lst, tst], ?_⟩
      rw [hr]
      exact tk_outU H i j v n a' (X ++ [mW m', sB s']) (.er e' a0) hj ha'

end Go.Proofs.Ytcabpncdgagihaa.Sc

namespace Go.Proofs.Ytcabpncdgagihaa.Sc
set_option linter.all false
set_option linter.unusedVariables false
set_option linter.unusedSimpArgs false
open Pm Ty Go.RowKit

theorem sqc_cell (s : Sq) : (sqc s).all PV.cell = true := by simp [sqc, bs, PV.cell]
theorem sqc_len (s : Sq) (hs : SqOk s) : (sqc s).length = 135 := by
  obtain ⟨_, _, _, _, _, _, h1, h2⟩ := hs
  simp [sqc, length_bs, h1, h2]
theorem sqc_tk (s : Sq) (hs : SqOk s) : List.take 135 (sqc s) = sqc s := List.take_of_length_le (by rw [sqc_len s hs]; exact Nat.le_refl _)
theorem sqc_w (s : Sq) : (sqc s)[0]? = some (.int .i64 s.w) := rfl
theorem sqc_i (s : Sq) : (sqc s)[4]? = some (.bool s.il) := rfl
/-- Is the header valid for the sequence, and may it be a second field? -/
def fitB (s : Sq) (p : Pi) (b : Bool) : Bool := pvalid s p && !(b && decide (p.st = 3))
def cxP (s : Sq) (p : Pi) (b : Bool) : Cx := ⟨p.ty, p.st, s.il, b⟩
theorem fits_ok (s : Sq) (p : Pi) (b : Bool) (H : Heap) (hs : SqOk s) : CallOk Try.prog 45 [.agg (sqc s), .agg (pic p), .bool b] H (.bool (fitB s p b)) H := by
  have pv := fun K => pvalid_ok s p K hs
  have h1 := sqc_cell s
  have h2 := sqc_len s hs
  have h3 := sqc_tk s hs
  have hst : (p.st == 3) = decide (p.st = 3) := rfl
  generalize hr : fitB s p b = r
  unfold fitB at hr
  generalize pvalid s p = v at *
  refine CallOk.body (F0 := [(0, .agg (sqc s)), (1, .agg (pic p)), (2, .bool b)]) Try.func45 rfl Try.ntmps45 Try.results45 rfl (by kernel_rfl) rfl ?_
  (repeat refine PW.seq ?_); refine PW.rg rfl fun K hK => ?_; simp (maxSteps := 3000000) (disch := omega) only [go_sem, ↓reduceIte, reduceCtorEq, pappend, plen, h1, pic]; refine hK _ _ ?_; clear hK K
  cases v <;> cases b
  all_goals
    (repeat refine PW.seq ?_); refine PW.rg rfl fun K hK => ?_; simp (maxSteps := 3000000) (disch := omega) only [go_sem, ↓reduceIte, reduceCtorEq, pappend, plen, h2, h3]
    refine VCx.call (pv _) rfl ?_; simp (maxSteps := 3000000) (disch := omega) only [go_sem, ↓reduceIte, reduceCtorEq, pappend, plen]; refine hK _ _ ?_; clear hK K
    refine PW.ret ⟨_, rfl, Fin.base (.id' ?_ (.bool _))⟩
    subst hr
    first | (simp [slot, Nat.beq]; done) | (simp [slot, Nat.beq]; rfl)
theorem may_ref (s : Sq) (p : Pi) (b : Bool) (H : Heap) (hs : SqOk s) : CallOk Try.prog 50 [.agg (sqc s), .agg (pic p), .bool b] H (.bool (fitB s p b)) H := by
  have pv := fun K => pvalid_ref s p K hs
  have h1 := sqc_cell s
  have h2 := sqc_len s hs
  have h3 := sqc_tk s hs
  generalize hr : fitB s p b = r
  unfold fitB at hr
  generalize pvalid s p = v at *
  refine CallOk.body (F0 := [(0, .agg (sqc s)), (1, .agg (pic p)), (2, .bool b)]) Try.func50 rfl Try.ntmps50 Try.results50 rfl (by kernel_rfl) rfl ?_
  (repeat refine PW.seq ?_); refine PW.rg rfl fun K hK => ?_; simp (maxSteps := 3000000) (disch := omega) only [go_sem, ↓reduceIte, reduceCtorEq, pappend, plen, h1, pic]; refine hK _ _ ?_; clear hK K
  cases v <;> cases b
  all_goals
    (repeat refine PW.seq ?_); refine PW.rg rfl fun K hK => ?_; simp (maxSteps := 3000000) (disch := omega) only [go_sem, ↓reduceIte, reduceCtorEq, pappend, plen, h2, h3]
    refine VCx.call (pv _) rfl ?_; simp (maxSteps := 3000000) (disch := omega) only [go_sem, ↓reduceIte, reduceCtorEq, pappend, plen]; refine hK _ _ ?_; clear hK K
    refine PW.ret ⟨_, rfl, Fin.base (.id' ?_ (.bool _))⟩
    subst hr
    first | (simp [slot, Nat.beq]; done) | (simp [slot, Nat.beq]; rfl)
theorem ctx_ok (s : Sq) (p : Pi) (b : Bool) (H : Heap) (hs : SqOk s) : CallOk Try.prog 89 [.agg (sqc s), .agg (pic p), .bool b] H (.agg (cxc (cxP s p b))) H := by
  have h1 := sqc_cell s
  have h2 := sqc_len s hs
  have h4 := sqc_i s
  refine CallOk.body (F0 := [(0, .agg (sqc s)), (1, .agg (pic p)), (2, .bool b)]) Try.func89 rfl Try.ntmps89 Try.results89 rfl (by kernel_rfl) rfl ?_
  (repeat refine PW.seq ?_); refine PW.rg rfl fun K hK => ?_; simp (maxSteps := 3000000) (disch := omega) only [go_sem, ↓reduceIte, reduceCtorEq, pappend, plen, h1, pic]; refine hK _ _ ?_; clear hK K
  (repeat refine PW.seq ?_); refine PW.rg rfl fun K hK => ?_; simp (maxSteps := 3000000) (disch := omega) only [go_sem, ↓reduceIte, reduceCtorEq, pappend, plen, h2, h4]; refine hK _ _ ?_; clear hK K
  refine PW.ret ⟨.agg [.int .i64 p.ty, .int .i64 p.st, .bool s.il, .bool b], by simp (maxSteps := 3000000) (disch := omega) only [go_sem, ↓reduceIte, reduceCtorEq, pappend, plen, presults, presult, List.mapM_cons, List.mapM_nil, Option.pure_def, Option.bind_eq_bind, Option.bind_some, Array.toList], ?_⟩
  refine Fin.base (.id (ag_scoped fun x hx => ?_))
  simp only [List.mem_cons, List.not_mem_nil, or_false] at hx
  rcases hx with rfl | rfl | rfl | rfl
  · exact .int _ _
  · exact .int _ _
  · exact .bool _
  · exact .bool _
theorem ctx_ref (s : Sq) (p : Pi) (b : Bool) (H : Heap) (hs : SqOk s) : CallOk Try.prog 112 [.agg (sqc s), .agg (pic p), .bool b] H (.agg (cxc (cxP s p b))) H := by
  have h1 := sqc_cell s
  have h2 := sqc_len s hs
  have h4 := sqc_i s
  refine CallOk.body (F0 := [(0, .agg (sqc s)), (1, .agg (pic p)), (2, .bool b)]) Try.func112 rfl Try.ntmps112 Try.results112 rfl (by kernel_rfl) rfl ?_
  (repeat refine PW.seq ?_); refine PW.rg rfl fun K hK => ?_; simp (maxSteps := 3000000) (disch := omega) only [go_sem, ↓reduceIte, reduceCtorEq, pappend, plen, h1, pic]; refine hK _ _ ?_; clear hK K
  (repeat refine PW.seq ?_); refine PW.rg rfl fun K hK => ?_; simp (maxSteps := 3000000) (disch := omega) only [go_sem, ↓reduceIte, reduceCtorEq, pappend, plen, h2, h4]; refine hK _ _ ?_; clear hK K
  refine PW.ret ⟨.agg [.int .i64 p.ty, .int .i64 p.st, .bool s.il, .bool b], by simp (maxSteps := 3000000) (disch := omega) only [go_sem, ↓reduceIte, reduceCtorEq, pappend, plen, presults, presult, List.mapM_cons, List.mapM_nil, Option.pure_def, Option.bind_eq_bind, Option.bind_some, Array.toList], ?_⟩
  refine Fin.base (.id (ag_scoped fun x hx => ?_))
  simp only [List.mem_cons, List.not_mem_nil, or_false] at hx
  rcases hx with rfl | rfl | rfl | rfl
  · exact .int _ _
  · exact .int _ _
  · exact .bool _
  · exact .bool _

end Go.Proofs.Ytcabpncdgagihaa.Sc

namespace Go.Proofs.Ytcabpncdgagihaa.Sc
set_option linter.all false
set_option linter.unusedVariables false
set_option linter.unusedSimpArgs false
open Pm Ty Go.RowKit

end Go.Proofs.Ytcabpncdgagihaa.Sc

namespace Go.Proofs.Ytcabpncdgagihaa.Sc
set_option linter.all false
set_option linter.unusedVariables false
set_option linter.unusedSimpArgs false
open Pm Ty Go.RowKit

theorem mtk_b {c : Cx} {q : List UInt8} {n a : Nat} {s : St} {y : Mb × St} {a1 : Nat} (h : mtk c s q n a = .ok y a1) (ha : a ≤ n) (hs : vrS s) : a1 ≤ n ∧ y.1.lv.length = 384 := by
  unfold mtk at h
  cases h1 : tkKd c q n a with
  | er e a2 => rw [h1] at h; cases h
  | ok x a2 =>
    obtain ⟨b1, b2⟩ := tkKd_b h1 ha
    rw [h1, Rr.bind_ok] at h
    unfold tkRs at h
    cases h2 : tkPr c q n x.1 s a2 with
    | er e a3 => rw [h2] at h; cases h
    | ok y2 a3 =>
      obtain ⟨c1, c2, _⟩ := tkPr_b h2 b1 hs
      rw [h2, Rr.bind_ok] at h
      cases h3 : tkCh c q n x.2 y2.1 y2.2 a3 with
      | er e a4 => rw [h3] at h; cases h
      | ok y3 a4 =>
        obtain ⟨d1, d2, _⟩ := tkCh_b h3 c1
        rw [h3, Rr.bind_ok] at h
        cases h4 : tkCo q n x.2 y3.1 a4 with
        | er e a5 => rw [h4] at h; cases h
        | ok y4 a5 =>
          obtain ⟨e1, e2, _⟩ := tkCo_b h4 d1
          rw [h4, Rr.bind_ok] at h
          cases h5 : tkLv q n 6 y4 y3.2 a5 with
          | er e a6 => rw [h5] at h; cases h
          | ok y5 a6 =>
            obtain ⟨f1, f2, _⟩ := tkLv_b 6 y4 y3.2 a5 h5 e1 (by omega) (by rw [e2, d2, c2, b2]; exact zl384_len)
            rw [h5, Rr.bind_ok] at h
            injection h with g1 g2
            subst g1 g2
            exact ⟨f1, f2⟩
theorem mtkA_b {c : Cx} {q : List UInt8} {n a : Nat} {s : St} {y : Mb × St} {a1 : Nat} (h : mtkA c s q n a = .ok y a1) (ha : a ≤ n) : a1 ≤ n ∧ y.1.lv.length = 384 := by
  unfold mtkA at h
  split at h
  · rename_i hv
    rw [Bool.and_eq_true] at hv
    exact mtk_b h ha (vst_b hv.2).2.1
  · cases h

/-- The macroblocks of a slice. -/
def slL (c : Cx) (q : List UInt8) (n : Nat) : Nat → St → Nat → Rr (List Mb × St)
  | 0, s, a => .ok ([], s) a
  | r + 1, s, a => (mtkA c s q n a).bind fun y a1 => (slL c q n r y.2 a1).bind fun z a2 => .ok (y.1 :: z.1, z.2) a2
def wmb (s : Sq) : Nat := (s.w.tdiv 16).toNat
/-- A slice: its quantiser, its macroblocks. -/
def slT (s : Sq) (p : Pi) (b : Bool) (t : Int) (q : List UInt8) : Rr (Nat × List Mb) :=
  if fitB s p b && (decide (1 ≤ t) && decide (t < 1 + prows s p)) then
    (if q.length = 0 ∨ lastB q = 0 then .er 2 0 else if nb q < 5 then .er 3 0 else if vl q 0 5 = 0 then .er 2 0 else
      (slL (cxP s p b) q (nb q) (wmb s) (st0 (vl q 0 5 : Int)) 5).bind fun z a => if a = nb q then .ok (vl q 0 5, z.1) a else .er 2 a) else .er 0 0
def rvT : Rr (Nat × List Mb) → PV
  | .ok x _ => .tup [.int .i64 (x.1 : Int), .slice (x.2.flatMap mbc) x.2.length false, .int .i64 0]
  | .er e _ => .tup [.int .i64 0, .slice [] 0 true, ecd e]
def zrp (r : Nat) : List PV := (List.replicate r zmv).flatten
theorem zrp_succ (r : Nat) : zrp (r + 1) = zmv ++ zrp r := by simp [zrp, List.replicate_succ]
theorem zrp_len : ∀ r, (zrp r).length = r * 408
  | 0 => by simp [zrp]
  | r + 1 => by rw [zrp_succ, List.length_append, zrp_len r, zmv_len]; omega
theorem tk_cons {D : List Mb} {m : Mb} (hD : ∀ x ∈ D, x.lv.length = 384) (k r : Nat) (hk : D.length = k) : List.take (k * 408) (D.flatMap mbc ++ zrp (r + 1)) ++ (mbc m ++ List.drop (k * 408 + 408) (D.flatMap mbc ++ zrp (r + 1))) = (D ++ [m]).flatMap mbc ++ zrp r := by
  have hl := flat_len mbc 408 D (fun x hx => mbc_len x (hD x hx))
  rw [hk] at hl
  rw [List.take_left' hl, List.drop_append, List.drop_of_length_le (by omega), hl, show k * 408 + 408 - k * 408 = 408 by omega, zrp_succ, List.nil_append, List.drop_left' zmv_len, List.flatMap_append]
  simp
theorem cl_len {D : List Mb} (hD : ∀ x ∈ D, x.lv.length = 384) (k r : Nat) (hk : D.length = k) : (D.flatMap mbc ++ zrp r).length = (k + r) * 408 := by
  rw [List.length_append, flat_len mbc 408 D (fun x hx => mbc_len x (hD x hx)), hk, zrp_len, Nat.add_mul]
/-- What TakeSlice has in memory. -/
def sH (H : Heap) (s : Sq) (p : Pi) (t : Int) (q : List UInt8) (f : Bool) (n a : Nat) (c : Cx) (st : St) (B : List PV) : Heap := H ++ [⟨62, 0, sqc s⟩, ⟨64, 0, pic p⟩, ⟨105, 0, [.int .i64 t, .slice (bs q) q.length f]⟩, ⟨5, 1, []⟩, rA q n a, ⟨38, 0, cxc c⟩, ⟨34, 0, stc st⟩, ⟨49, 0, B⟩]
theorem T_sc (n : Nat) (v e : Int) : Scoped n (.tup [.int .i64 v, .slice [] 0 true, .int .i64 e]) := .tup (all_scoped' fun x hx => by
  simp only [List.mem_cons, List.not_mem_nil, or_false] at hx
  rcases hx with rfl | rfl | rfl
  · exact .int _ _
  · exact sl_scoped (fun x hx => by cases hx)
  · exact .int _ _)

set_option maxHeartbeats 8000000 in
set_option maxRecDepth 100000 in
theorem slice_ok (s : Sq) (p : Pi) (b : Bool) (t : Int) (q : List UInt8) (f : Bool) (H : Heap) (hs : SqOk s) (ht : i64r t) (hq : q.length ≤ 100000000) :
    CallOk Try.prog 49 [.agg (sqc s), .agg (pic p), .bool b, .agg [.int .i64 t, .slice (bs q) q.length f]] H (rvT (slT s p b t q)) H := by
  have fo := fun K => fits_ok s p b K hs
  have ro := fun K => prows_ok s p K hs
  have co := fun K => ctx_ok s p b K hs
  have so := fun v K => start_ok v K
  have h1 := sqc_cell s
  have h2 := sqc_len s hs
  have h3 := sqc_tk s hs
  have h4 := sqc_w s
  have p6 : (pic p).length = 6 := rfl
  have t6 : List.take 6 (pic p) = pic p := rfl
  have l8 : ∀ t, (stc t).length = 8 := fun _ => rfl
  have c8 : ∀ t, (stc t).all PV.cell = true := fun _ => rfl
  have tk8 : ∀ t, List.take 8 (stc t) = stc t := fun _ => rfl
  have dk8 : ∀ t, List.drop 8 (stc t) = [] := fun _ => rfl
  have c4 : ∀ c, (cxc c).all PV.cell = true := fun _ => rfl
  have l4 : ∀ c, (cxc c).length = 4 := fun _ => rfl
  have tk4 : ∀ c, List.take 4 (cxc c) = cxc c := fun _ => rfl
  have dk4 : ∀ c, List.drop 4 (cxc c) = [] := fun _ => rfl
  generalize hres : slT s p b t q = res
  unfold slT at hres
  refine CallOk.body (F0 := [(0, .agg (sqc s)), (1, .agg (pic p)), (2, .bool b), (3, .agg [.int .i64 t, .slice (bs q) q.length f])]) Try.func49 rfl Try.ntmps49 Try.results49 rfl (by kernel_rfl) rfl ?_
  (repeat refine PW.seq ?_); refine PW.rg rfl fun K hK => ?_; simp (maxSteps := 3000000) (disch := omega) only [go_sem, ↓reduceIte, reduceCtorEq, pappend, plen, h1, pic]; refine hK _ _ ?_; clear hK K
  suffices hrest : PW Try.prog _ _ [(0, .agg (sqc s)), (1, .agg (pic p)), (2, .bool b), (4, .ptr H.length 0 0), (5, .ptr (H.length + 1) 0 0), (7, .ptr (H.length + 2) 0 0), (36, .bool (!(fitB s p b && (decide (1 ≤ t) && decide (t < 1 + prows s p)))))] (H ++ [⟨62, 0, sqc s⟩, ⟨64, 0, pic p⟩, ⟨105, 0, [.int .i64 t, .slice (bs q) q.length f]⟩]) _ by
    cases hf : fitB s p b with
    | false =>
      rw [hf] at fo hrest
      (repeat refine PW.seq ?_); refine PW.draw mix (by kernel_rfl) fun K hK => ?_; simp (maxSteps := 3000000) (disch := omega) only [go_sem, ↓reduceIte, reduceCtorEq, pappend, plen, h2, h3]
      refine VCy.call (fo _) rfl ?_; simp (maxSteps := 3000000) (disch := omega) only [go_sem, ↓reduceIte, reduceCtorEq, pappend, plen]; refine hK _ _ ?_; clear hK K
      exact PW.at [0, 1, 2, 4, 5, 7, 36] hrest rfl rfl
    | true =>
      rw [hf] at fo hrest
      rw [Bool.true_and] at hrest
      by_cases ht1 : 1 ≤ t
      · have d1 : decide (t < 1) = false := decide_eq_false (by omega)
        have hpr : 0 ≤ prows s p ∧ prows s p ≤ 4 := by
          unfold prows
          split
          · rename_i hv
            have := pvalid_h hv
            split
            · have := Int.tdiv_eq_ediv_of_nonneg (a := s.h) (b := 16) (by omega)
              omega
            · have := Int.tdiv_eq_ediv_of_nonneg (a := s.h) (b := 32) (by omega)
              omega
          · omega
        have d2 : decide (1 + prows s p ≤ t) = !decide (t < 1 + prows s p) := by
          by_cases h : t < 1 + prows s p
          · rw [decide_eq_true h, decide_eq_false (by omega)]; rfl
          · rw [decide_eq_false h, decide_eq_true (by omega)]; rfl
        rw [decide_eq_true ht1, Bool.true_and, ← d2] at hrest
        (repeat refine PW.seq ?_); refine PW.draw mix (by kernel_rfl) fun K hK => ?_; simp (maxSteps := 3000000) (disch := omega) only [go_sem, ↓reduceIte, reduceCtorEq, pappend, plen, h2, h3]
        refine VCy.call (fo _) rfl ?_; simp (maxSteps := 3000000) (disch := omega) only [go_sem, ↓reduceIte, reduceCtorEq, pappend, plen, d1, h2, h3]
        refine VCy.call (ro _) rfl ?_; simp (maxSteps := 3000000) (disch := omega) only [go_sem, ↓reduceIte, reduceCtorEq, pappend, plen]; refine hK _ _ ?_; clear hK K
        exact PW.at [0, 1, 2, 4, 5, 7, 36] hrest rfl rfl
      · have d1 : decide (t < 1) = true := decide_eq_true (by omega)
        rw [decide_eq_false ht1, Bool.false_and] at hrest
        (repeat refine PW.seq ?_); refine PW.draw mix (by kernel_rfl) fun K hK => ?_; simp (maxSteps := 3000000) (disch := omega) only [go_sem, ↓reduceIte, reduceCtorEq, pappend, plen, h2, h3]
        refine VCy.call (fo _) rfl ?_; simp (maxSteps := 3000000) (disch := omega) only [go_sem, ↓reduceIte, reduceCtorEq, pappend, plen, d1]; refine hK _ _ ?_; clear hK K
        exact PW.at [0, 1, 2, 4, 5, 7, 36] hrest rfl rfl
  cases hc : (fitB s p b && (decide (1 ≤ t) && decide (t < 1 + prows s p))) with
  | false =>
    rw [hc, if_neg (by decide)] at hres
    (repeat refine PW.seq ?_); refine PW.cond (t := _) rfl (fun h => ?_) (fun h => ?_)
    rotate_left
    · cases h
    (repeat refine PW.seq ?_); refine PW.rg rfl fun K hK => ?_; simp (maxSteps := 3000000) (disch := omega) only [go_sem, ↓reduceIte, reduceCtorEq, pappend, plen]; refine hK _ _ ?_; clear hK K
    refine PW.ret ⟨.tup [.int .i64 0, .slice [] 0 true, .int .i64 1], by simp (maxSteps := 3000000) (disch := omega) only [go_sem, ↓reduceIte, reduceCtorEq, pappend, plen, presults, presult, List.mapM_cons, List.mapM_nil, Option.pure_def, Option.bind_eq_bind, Option.bind_some, Array.toList], ?_⟩
    rw [← hres]
    exact Fin.base (.id (T_sc _ _ _))
  | true =>
    rw [hc, if_pos rfl] at hres
    rw [Bool.and_eq_true] at hc
    have hw : 1 ≤ wmb s ∧ wmb s ≤ 4 ∧ s.w.tdiv 16 = ((wmb s : Nat) : Int) := by
      have hv : pvalid s p = true := by
        have := hc.1
        unfold fitB at this
        rw [Bool.and_eq_true] at this
        exact this.1
      have := pvalid_h hv
      have e := Int.tdiv_eq_ediv_of_nonneg (a := s.w) (b := 16) (by omega)
      unfold wmb
      omega
    clear fo ro hc
    (repeat refine PW.seq ?_); refine PW.cond (t := _) rfl (fun h => ?_) (fun h => ?_)
    · cases h
    refine PW.skip ?_
    by_cases hb : q.length = 0 ∨ lastB q = 0
    · rw [if_pos hb] at hres
      have nr := fun K => newr_bad q f K hq hb
      (repeat refine PW.seq ?_); refine PW.rg rfl fun K hK => ?_; simp (maxSteps := 3000000) (disch := omega) only [go_sem, ↓reduceIte, reduceCtorEq, pappend, plen]; refine VCx.call (nr _) rfl ?_; simp (maxSteps := 3000000) (disch := omega) only [go_sem, ↓reduceIte, reduceCtorEq, pappend, plen]; refine hK _ _ ?_; clear hK K
      (repeat refine PW.seq ?_); refine PW.rg rfl fun K hK => ?_; simp (maxSteps := 3000000) (disch := omega) only [go_sem, ↓reduceIte, reduceCtorEq, pappend, plen]; refine hK _ _ ?_; clear hK K
      (repeat refine PW.seq ?_); refine PW.cond (t := _) rfl (fun h => ?_) (fun h => ?_)
      rotate_left
      · cases h
      (repeat refine PW.seq ?_); refine PW.rg rfl fun K hK => ?_; simp (maxSteps := 3000000) (disch := omega) only [go_sem, ↓reduceIte, reduceCtorEq, pappend, plen]; refine hK _ _ ?_; clear hK K
      refine PW.ret ⟨.tup [.int .i64 0, .slice [] 0 true, .int .i64 3], by simp (maxSteps := 3000000) (disch := omega) only [go_sem, ↓reduceIte, reduceCtorEq, pappend, plen, presults, presult, List.mapM_cons, List.mapM_nil, Option.pure_def, Option.bind_eq_bind, Option.bind_some, Array.toList], ?_⟩
      rw [← hres]
      exact Fin.base (.id (T_sc _ _ _))
    rw [if_neg hb] at hres
    obtain ⟨hb1, hb2⟩ := not_or.1 hb
    have nr := fun K => newr_ok q f K hq hb1 hb2
    obtain ⟨_, n2, _⟩ := nb_one q hb1 hb2
    generalize nb q = n at *
    (repeat refine PW.seq ?_); refine PW.rg rfl fun K hK => ?_; simp (maxSteps := 3000000) (disch := omega) only [go_sem, ↓reduceIte, reduceCtorEq, pappend, plen]; refine VCx.call (nr _) rfl ?_; simp (maxSteps := 3000000) (disch := omega) only [go_sem, ↓reduceIte, reduceCtorEq, pappend, plen]; refine hK _ _ ?_; clear hK K
    (repeat refine PW.seq ?_); refine PW.rg rfl fun K hK => ?_; simp (maxSteps := 3000000) (disch := omega) only [go_sem, ↓reduceIte, reduceCtorEq, pappend, plen]; refine hK _ _ ?_; clear hK K
    (repeat refine PW.seq ?_); refine PW.cond (t := _) rfl (fun h => ?_) (fun h => ?_)
    · cases h
    refine PW.skip ?_
    have gr := fun a X => (apn H ([⟨62, 0, sqc s⟩, ⟨64, 0, pic p⟩, ⟨105, 0, [.int .i64 t, .slice (bs q) q.length f]⟩, ⟨5, 1, []⟩, rA q n a] ++ X) 4)
    by_cases h5 : n < 5
    · rw [if_pos h5] at hres
      have tk := rtake_short (H.length + 4) q n 0 5 _ (gr 0 []) (by omega) (by omega) (by omega) (by omega)
      (repeat refine PW.seq ?_); refine PW.rg rfl fun K hK => ?_; simp (maxSteps := 3000000) (disch := omega) only [go_sem, ↓reduceIte, reduceCtorEq, pappend, plen]; refine VCx.call (tk) rfl ?_; simp (maxSteps := 3000000) (disch := omega) only [go_sem, ↓reduceIte, reduceCtorEq, pappend, plen]; refine hK _ _ ?_; clear hK K
      (repeat refine PW.seq ?_); refine PW.rg rfl fun K hK => ?_; simp (maxSteps := 3000000) (disch := omega) only [go_sem, ↓reduceIte, reduceCtorEq, pappend, plen]; refine hK _ _ ?_; clear hK K
      (repeat refine PW.seq ?_); refine PW.cond (t := _) rfl (fun h => ?_) (fun h => ?_)
      rotate_left
      · cases h
      (repeat refine PW.seq ?_); refine PW.rg rfl fun K hK => ?_; simp (maxSteps := 3000000) (disch := omega) only [go_sem, ↓reduceIte, reduceCtorEq, pappend, plen]; refine hK _ _ ?_; clear hK K
      refine PW.ret ⟨.tup [.int .i64 0, .slice [] 0 true, .int .i64 4], by simp (maxSteps := 3000000) (disch := omega) only [go_sem, ↓reduceIte, reduceCtorEq, pappend, plen, presults, presult, List.mapM_cons, List.mapM_nil, Option.pure_def, Option.bind_eq_bind, Option.bind_some, Array.toList], ?_⟩
      rw [← hres]
      exact Fin.base (.id (T_sc _ _ _))
    rw [if_neg h5] at hres
    have tk := rtake_ok (H.length + 4) q n 0 5 _ (gr 0 []) (by omega) (by omega) (by omega) (by omega)
    rw [aps] at tk
    simp only [List.append_nil, List.cons_append, List.nil_append, List.set_cons_succ, List.set_cons_zero, Nat.zero_add] at tk
    have hvl := vl_lt q 0 5
    generalize vl q 0 5 = v at *
    (repeat refine PW.seq ?_); refine PW.rg rfl fun K hK => ?_; simp (maxSteps := 3000000) (disch := omega) only [go_sem, ↓reduceIte, reduceCtorEq, pappend, plen]; refine VCx.call (tk) rfl ?_; simp (maxSteps := 3000000) (disch := omega) only [go_sem, ↓reduceIte, reduceCtorEq, pappend, plen]; refine hK _ _ ?_; clear hK K
    (repeat refine PW.seq ?_); refine PW.rg rfl fun K hK => ?_; simp (maxSteps := 3000000) (disch := omega) only [go_sem, ↓reduceIte, reduceCtorEq, pappend, plen]; refine hK _ _ ?_; clear hK K
    (repeat refine PW.seq ?_); refine PW.cond (t := _) rfl (fun h => ?_) (fun h => ?_)
    · cases h
    refine PW.skip ?_
    by_cases hv0 : v = 0
    · rw [if_pos hv0] at hres
      have d1 : ((v : Int) == 0) = true := by simp [hv0]
      (repeat refine PW.seq ?_); refine PW.rg rfl fun K hK => ?_; simp (maxSteps := 3000000) (disch := omega) only [go_sem, ↓reduceIte, reduceCtorEq, pappend, plen, d1]; refine hK _ _ ?_; clear hK K
      (repeat refine PW.seq ?_); refine PW.cond (t := _) rfl (fun h => ?_) (fun h => ?_)
      rotate_left
      · cases h
      (repeat refine PW.seq ?_); refine PW.rg rfl fun K hK => ?_; simp (maxSteps := 3000000) (disch := omega) only [go_sem, ↓reduceIte, reduceCtorEq, pappend, plen]; refine hK _ _ ?_; clear hK K
      refine PW.ret ⟨.tup [.int .i64 0, .slice [] 0 true, .int .i64 3], by simp (maxSteps := 3000000) (disch := omega) only [go_sem, ↓reduceIte, reduceCtorEq, pappend, plen, presults, presult, List.mapM_cons, List.mapM_nil, Option.pure_def, Option.bind_eq_bind, Option.bind_some, Array.toList], ?_⟩
      rw [← hres]
      exact Fin.base (.id (T_sc _ _ _))
    rw [if_neg hv0] at hres
    have d1 : ((v : Int) == 0) = false := by rw [beq_eq_false_iff_ne]; omega
    (repeat refine PW.seq ?_); refine PW.rg rfl fun K hK => ?_; simp (maxSteps := 3000000) (disch := omega) only [go_sem, ↓reduceIte, reduceCtorEq, pappend, plen, d1]; refine hK _ _ ?_; clear hK K
    (repeat refine PW.seq ?_); refine PW.cond (t := _) rfl (fun h => ?_) (fun h => ?_)
    · cases h
    refine PW.skip ?_
    have co1 := fun K => co K
    have so1 := fun K => so (v : Int) K
    generalize cxP s p b = c at *
    (repeat refine PW.seq ?_); refine PW.rg rfl fun K hK => ?_; simp (maxSteps := 3000000) (disch := omega) only [go_sem, ↓reduceIte, reduceCtorEq, pappend, plen, h2, h3, p6, t6]
    refine VCx.call (co1 _) rfl ?_; simp (maxSteps := 3000000) (disch := omega) only [go_sem, ↓reduceIte, reduceCtorEq, pappend, plen]
    refine VCx.call (so1 _) rfl ?_; simp (maxSteps := 3000000) (disch := omega) only [go_sem, ↓reduceIte, reduceCtorEq, pappend, plen, l8, c8, dk8, l4, c4, dk4, Nat.reduceAdd]; refine hK _ _ ?_; clear hK K
    obtain ⟨w1, w2, w3⟩ := hw
    generalize wmb s = w at *
    (repeat refine PW.seq ?_); refine PW.rg rfl fun K hK => ?_; simp (maxSteps := 3000000) (disch := omega) only [go_sem, ↓reduceIte, reduceCtorEq, pappend, plen, h4, h2, w3, ↓zcMb, zmv_len]; refine hK _ _ ?_; clear hK K
    refine PW.at [11, 13, 14, 15, 16] (F1 := [(11, .ptr (H.length + 4) 0 0), (13, .int .u32 (v : Int)), (14, .ptr (H.length + 5) 0 0), (15, .ptr (H.length + 6) 0 0), (16, .msl (H.length + 7) 0 0 w 408 true)]) (H1 := sH H s p t q f n 5 c (st0 v) (zrp w)) ?_ (by simp [kp, slot, Nat.beq]) rfl
    have gq := apn H [⟨62, 0, sqc s⟩, ⟨64, 0, pic p⟩, ⟨105, 0, [.int .i64 t, .slice (bs q) q.length f]⟩, ⟨5, 1, []⟩, rA q n 5, ⟨38, 0, cxc c⟩, ⟨34, 0, stc (st0 v)⟩, ⟨49, 0, zrp w⟩] 7
    (repeat refine PW.seq ?_); refine PW.rg rfl fun K hK => ?_; simp (maxSteps := 3000000) (disch := omega) only [go_sem, ↓reduceIte, reduceCtorEq, pappend, plen, sH, apn]; refine hK _ _ ?_; clear hK K
    (repeat refine PW.seq ?_); refine PW.block (PW.loop ?_)
    suffices hl1 : ∀ (k : Nat) (D : List Mb) (st : St) (a : Nat), k ≤ w → D.length = k → (∀ x ∈ D, x.lv.length = 384) → a ≤ n → ((slL c q n (w - k) st a).bind fun z a => if a = n then Rr.ok (v, D ++ z.1) a else .er 2 a) = res →
        PL Try.prog _ _ [(11, .ptr (H.length + 4) 0 0), (13, .int .u32 (v : Int)), (14, .ptr (H.length + 5) 0 0), (15, .ptr (H.length + 6) 0 0), (16, .msl (H.length + 7) 0 0 w 408 true), (68, .int .i64 (w : Int)), (69, .int .i64 (k : Int))] (sH H s p t q f n a c st (D.flatMap mbc ++ zrp (w - k))) _ by
      exact PL.at [11, 13, 14, 15, 16, 68, 69] (hl1 0 [] (st0 v) 5 (by omega) rfl (fun x hx => by cases hx) (by omega) hres) (by simp [kp, slot, Nat.beq]) rfl
    clear hres gr tk nr co1 so1 co so
    intro k D st a hk hD hDl ha hres
    induction hd : w - k using Nat.strongRecOn generalizing k D st a with
    | _ d ih =>
      refine PL.round ?_; (repeat refine PW.seq ?_); refine PW.rg rfl fun K hK => ?_; simp (maxSteps := 3000000) (disch := omega) only [go_sem, ↓reduceIte, reduceCtorEq, pappend, plen]; refine hK _ _ ?_; clear hK K
      (repeat refine PW.seq ?_); refine PW.cond (t := _) rfl (fun h => ?_) (fun h => ?_)
      · have h5k : k < w := by have := of_decide_eq_true h; omega
        obtain ⟨r, hr⟩ : ∃ r, d = r + 1 := ⟨d - 1, by omega⟩
        subst hr
        have hr2 : w - (k + 1) = r := by omega
        have hcl := cl_len hDl k (r + 1) hD
        have tkc := fun m => tk_cons (m := m) hDl k r hD
        rw [hd, slL, Rr.bind_bind] at hres
        have mt := mtake_ok (H.length + 4) q n a c st (sH H s p t q f n a c st (D.flatMap mbc ++ zrp (r + 1))) (apn _ _ 4) ha (by omega) hq
        refine PW.skip ?_; (repeat refine PW.seq ?_); refine PW.block ?_
        (repeat refine PW.seq ?_); refine PW.rg rfl fun K hK => ?_; simp (maxSteps := 3000000) (disch := omega) only [go_sem, ↓reduceIte, reduceCtorEq, pappend, plen]; refine hK _ _ ?_; clear hK K
        (repeat refine PW.seq ?_); refine PW.rg rfl fun K hK => ?_; simp (maxSteps := 3000000) (disch := omega) only [go_sem, ↓reduceIte, reduceCtorEq, pappend, plen, sH, apn, tk4, l4, tk8, l8]
        unfold sH at mt
        refine VCx.callR mt rfl fun v' H' hR => ?_
        obtain ⟨rfl, hH⟩ := hR
        cases hm : mtkA c st q n a with
        | er e a1 =>
          rw [hm] at hH hres
          obtain ⟨a2, _, rfl⟩ := hH
          rw [Rr.bind_er] at hres
          have d0 : ((e : Int) + 1 != 0) = true := by simp; omega
          have hzl := zmv_len
          have hzc := zmv_cell
          simp (maxSteps := 3000000) (disch := omega) only [go_sem, ↓reduceIte, reduceCtorEq, pappend, plen, rvM, ecd, apn, aps, hcl, hzl, hzc, l8, c8, dk8]
          refine hK _ _ ?_; clear hK K
          (repeat refine PW.seq ?_); refine PW.rg rfl fun K hK => ?_; simp (maxSteps := 3000000) (disch := omega) only [go_sem, ↓reduceIte, reduceCtorEq, pappend, plen, d0]; refine hK _ _ ?_; clear hK K
          (repeat refine PW.seq ?_); refine PW.cond (t := _) rfl (fun h => ?_) (fun h => ?_)
          rotate_left
          · cases h
          (repeat refine PW.seq ?_); refine PW.rg rfl fun K hK => ?_; simp (maxSteps := 3000000) (disch := omega) only [go_sem, ↓reduceIte, reduceCtorEq, pappend, plen]; refine hK _ _ ?_; clear hK K
          refine PW.ret ⟨.tup [.int .i64 0, .slice [] 0 true, .int .i64 ((e : Int) + 1)], by simp (maxSteps := 3000000) (disch := omega) only [go_sem, ↓reduceIte, reduceCtorEq, pappend, plen, presults, presult, List.mapM_cons, List.mapM_nil, Option.pure_def, Option.bind_eq_bind, Option.bind_some, Array.toList], ?_⟩
          rw [← hres]
          exact Fin.base (.id (T_sc _ _ _))
        | ok y a1 =>
          rw [hm] at hH hres
          subst hH
          obtain ⟨b1, b2⟩ := mtkA_b hm ha
          rw [Rr.bind_ok, Rr.bind_bind] at hres
          have m408 := mbc_len y.1 b2
          have mcl := mbc_cell y.1
          have htk1 := tkc y.1
          simp (maxSteps := 3000000) (disch := omega) only [go_sem, ↓reduceIte, reduceCtorEq, pappend, plen, rvM, apn, aps, hcl, m408, mcl, htk1, l8, c8, dk8]
          refine hK _ _ ?_; clear hK K
          (repeat refine PW.seq ?_); refine PW.rg rfl fun K hK => ?_; simp (maxSteps := 3000000) (disch := omega) only [go_sem, ↓reduceIte, reduceCtorEq, pappend, plen]; refine hK _ _ ?_; clear hK K
          (repeat refine PW.seq ?_); refine PW.cond (t := _) rfl (fun h => ?_) (fun h => ?_)
          · cases h
          refine PW.skip ?_
          (repeat refine PW.seq ?_); refine PW.rg rfl fun K hK => ?_; simp (maxSteps := 3000000) (disch := omega) only [go_sem, ↓reduceIte, reduceCtorEq, pappend, plen]; refine hK _ _ ?_; clear hK K
          refine PL.at [11, 13, 14, 15, 16, 68, 69] (ih r (by omega) (k + 1) (D ++ [y.1]) y.2 a1 (by omega) (by simp [hD]) (fun x hx => ?_) b1 ?_ hr2) rfl ?_
          · rcases List.mem_append.1 hx with hx | hx
            · exact hDl x hx
            · rw [List.mem_singleton] at hx
              rw [hx]; exact b2
          · rw [hr2, ← hres]
            congr 1
            funext z a'
            simp only [Rr.bind, List.append_assoc, List.cons_append, List.nil_append]
          · rfl
      · have h6 : k = w := by have := of_decide_eq_false h; omega
        subst h6
        refine PW.exit ?_
        rw [Nat.sub_self] at hd
        subst hd
        rw [Nat.sub_self, slL, Rr.bind_ok] at hres
        have hcl := cl_len hDl k 0 hD
        have lf := rleft_ok (H.length + 4) q n a (sH H s p t q f n a c st (D.flatMap mbc ++ zrp 0)) (apn _ _ 4) ha (by omega)
        unfold sH at lf
        by_cases han : a = n
        · rw [if_pos han] at hres
          rw [han, Nat.sub_self] at lf
          subst han
          (repeat refine PW.seq ?_); refine PW.rg rfl fun K hK => ?_; simp (maxSteps := 3000000) (disch := omega) only [go_sem, ↓reduceIte, reduceCtorEq, pappend, plen, sH]
          refine VCx.call (lf) rfl ?_; simp (maxSteps := 3000000) (disch := omega) only [go_sem, ↓reduceIte, reduceCtorEq, pappend, plen]; refine hK _ _ ?_; clear hK K
          (repeat refine PW.seq ?_); refine PW.cond (t := _) rfl (fun h => ?_) (fun h => ?_)
          · cases h
          refine PW.skip ?_
          (repeat refine PW.seq ?_); refine PW.rg rfl fun K hK => ?_; simp (maxSteps := 3000000) (disch := omega) only [go_sem, ↓reduceIte, reduceCtorEq, pappend, plen]; refine hK _ _ ?_; clear hK K
          refine PW.ret ⟨.tup [.int .i64 (v : Int), .msl (H.length + 7) 0 0 k 408 true, .int .i64 0], by simp (maxSteps := 3000000) (disch := omega) only [go_sem, ↓reduceIte, reduceCtorEq, pappend, plen, presults, presult, List.mapM_cons, List.mapM_nil, Option.pure_def, Option.bind_eq_bind, Option.bind_some, Array.toList], ?_⟩
          rw [← hres]
          have hz0 : zrp 0 = [] := by simp [zrp]
          refine Fin.base (Fz.tupC ⟨.id (.int _ _), ?_, .id (.int _ _), trivial⟩)
          rw [List.append_nil, hD, hz0, List.append_nil]
          exact Fz.mslC (e := 49) (xs := D.flatMap mbc) (by omega) (apn _ _ 7) (by rw [flat_len mbc 408 D (fun x hx => mbc_len x (hDl x hx)), hD]) (FzC.refl (mbl_sc D _))
        · rw [if_neg han] at hres
          have d0 : (((n - a : Nat) : Int) != 0) = true := by simp; omega
          (repeat refine PW.seq ?_); refine PW.rg rfl fun K hK => ?_; simp (maxSteps := 3000000) (disch := omega) only [go_sem, ↓reduceIte, reduceCtorEq, pappend, plen, sH]
          refine VCx.call (lf) rfl ?_; simp (maxSteps := 3000000) (disch := omega) only [go_sem, ↓reduceIte, reduceCtorEq, pappend, plen, d0]; refine hK _ _ ?_; clear hK K
          (repeat refine PW.seq ?_); refine PW.cond (t := _) rfl (fun h => ?_) (fun h => ?_)
          rotate_left
          · cases h
          (repeat refine PW.seq ?_); refine PW.rg rfl fun K hK => ?_; simp (maxSteps := 3000000) (disch := omega) only [go_sem, ↓reduceIte, reduceCtorEq, pappend, plen]; refine hK _ _ ?_; clear hK K
          refine PW.ret ⟨.tup [.int .i64 0, .slice [] 0 true, .int .i64 3], by simp (maxSteps := 3000000) (disch := omega) only [go_sem, ↓reduceIte, reduceCtorEq, pappend, plen, presults, presult, List.mapM_cons, List.mapM_nil, Option.pure_def, Option.bind_eq_bind, Option.bind_some, Array.toList], ?_⟩
          rw [← hres]
          exact Fin.base (.id (T_sc _ _ _))

end Go.Proofs.Ytcabpncdgagihaa.Sc

namespace Go.Proofs.Ytcabpncdgagihaa.Sc
set_option linter.all false
set_option linter.unusedVariables false
set_option linter.unusedSimpArgs false
open Pm Ty Go.RowKit

theorem Rr.bind_okE {α β : Type} {x : Rr α} {f : α → Nat → Rr β} {v : β} {a : Nat} (h : x.bind f = .ok v a) : ∃ y a1, x = .ok y a1 ∧ f y a1 = .ok v a := by
  cases x with
  | ok y a1 => exact ⟨y, a1, rfl, h⟩
  | er e a1 => cases h
theorem setV_q (s : St) (d : Nat) (x y : Int) : (setV s d x y).q = s.q := by unfold setV; split <;> rfl
theorem setD_q (s : St) (d : Nat) (x : Int) : (setD s d x).q = s.q := by unfold setD; split <;> (try split) <;> rfl
theorem setVm_dl (m : Mb) (d k : Nat) (x y : Int) : (setVm m d k x y).dl = m.dl := by
  unfold setVm
  repeat' split
  all_goals rfl
theorem setSl_dl (m : Mb) (d k : Nat) (x : Int) : (setSl m d k x).dl = m.dl := by
  unfold setSl
  repeat' split
  all_goals rfl
theorem setCd_dl (m : Mb) (d : Nat) (b : Bool) : (setCd m d b).dl = m.dl := by
  unfold setCd
  repeat' split
  all_goals rfl
theorem tkVc_dq {c : Cx} {q : List UInt8} {n : Nat} {m : Mb} {s : St} {d k a : Nat} {y : Mb × St} {a1 : Nat} (h : tkVc c q n m s d k a = .ok y a1) : y.1.dl = m.dl ∧ y.2.q = s.q := by
  unfold tkVc at h
  obtain ⟨m', a2, h1, h⟩ := Rr.bind_okE h
  obtain ⟨x, a3, _, h⟩ := Rr.bind_okE h
  obtain ⟨z, a4, _, h⟩ := Rr.bind_okE h
  injection h with h _
  rw [← h]
  refine ⟨(setVm_dl _ _ _ _ _).trans ?_, setV_q _ _ _ _⟩
  split at h1
  · obtain ⟨b, a5, _, h1⟩ := Rr.bind_okE h1
    injection h1 with h1 _
    rw [← h1]
    exact setSl_dl _ _ _ _
  · injection h1 with h1 _
    rw [h1]
theorem tkVs_dq {c : Cx} {q : List UInt8} {n d : Nat} : ∀ (r k : Nat) (m : Mb) (s : St) (a : Nat) {y : Mb × St} {a1 : Nat}, tkVs c q n d r k m s a = .ok y a1 → y.1.dl = m.dl ∧ y.2.q = s.q
  | 0, _, m, s, a, y, a1, h => by injection h with h _; rw [← h]; exact ⟨rfl, rfl⟩
  | r + 1, k, m, s, a, y, a1, h => by
    unfold tkVs at h
    obtain ⟨x, a2, h1, h⟩ := Rr.bind_okE h
    obtain ⟨e1, e2⟩ := tkVc_dq h1
    obtain ⟨e3, e4⟩ := tkVs_dq r (k + 1) x.1 x.2 a2 h
    exact ⟨e3.trans e1, e4.trans e2⟩
theorem tkDr_dq {c : Cx} {q : List UInt8} {n : Nat} {m : Mb} {s : St} {d a : Nat} {y : Mb × St} {a1 : Nat} (h : tkDr c q n m s d a = .ok y a1) : y.1.dl = m.dl ∧ y.2.q = s.q := by
  unfold tkDr at h
  split at h
  · exact tkVs_dq _ _ _ _ _ h
  · injection h with h _; rw [← h]; exact ⟨rfl, rfl⟩
theorem tkDs_dq {c : Cx} {q : List UInt8} {n : Nat} : ∀ (r d : Nat) (m : Mb) (s : St) (a : Nat) {y : Mb × St} {a1 : Nat}, tkDs c q n r d m s a = .ok y a1 → y.1.dl = m.dl ∧ y.2.q = s.q
  | 0, _, m, s, a, y, a1, h => by injection h with h _; rw [← h]; exact ⟨rfl, rfl⟩
  | r + 1, d, m, s, a, y, a1, h => by
    unfold tkDs at h
    obtain ⟨x, a2, h1, h⟩ := Rr.bind_okE h
    obtain ⟨e1, e2⟩ := tkDr_dq h1
    obtain ⟨e3, e4⟩ := tkDs_dq r (d + 1) x.1 x.2 a2 h
    exact ⟨e3.trans e1, e4.trans e2⟩
theorem tkPr_dq {c : Cx} {q : List UInt8} {n : Nat} {m : Mb} {s : St} {a : Nat} {y : Mb × St} {a1 : Nat} (h : tkPr c q n m s a = .ok y a1) : y.1.dl = m.dl ∧ y.2.q = s.q := by
  unfold tkPr at h
  split at h
  · obtain ⟨m', a2, h1, h⟩ := Rr.bind_okE h
    obtain ⟨e1, e2⟩ := tkDs_dq _ _ _ _ _ h
    refine ⟨e1.trans ?_, e2⟩
    split at h1
    · obtain ⟨b, a5, _, h1⟩ := Rr.bind_okE h1
      injection h1 with h1 _
      rw [← h1]
    · injection h1 with h1 _
      rw [h1]
  · injection h with h _; rw [← h]; exact ⟨rfl, rfl⟩
theorem tkCh_dq {c : Cx} {q : List UInt8} {n : Nat} {hl : Bool} {m : Mb} {s : St} {a : Nat} {y : Mb × St} {a1 : Nat} (h : tkCh c q n hl m s a = .ok y a1) (hm : m.dl = 0) (hs : 1 ≤ s.q ∧ s.q ≤ 31) : y.2.q = s.q + y.1.dl ∧ 1 ≤ y.2.q ∧ y.2.q ≤ 31 := by
  unfold tkCh at h
  split at h
  · obtain ⟨m', a2, h1, h⟩ := Rr.bind_okE h
    obtain ⟨d, a3, _, h⟩ := Rr.bind_okE h
    split at h
    · rename_i hv
      injection h with e _
      rw [← e]
      simp [vqB] at hv
      exact ⟨rfl, hv⟩
    · cases h
  · injection h with e _
    rw [← e]
    refine ⟨?_, hs⟩
    show s.q = s.q + m.dl
    omega
theorem tkCf_dq {q : List UInt8} {n : Nat} : ∀ (r : Nat) (m : Mb) (a : Nat) {y : Mb} {a1 : Nat}, tkCf q n r m a = .ok y a1 → y.dl = m.dl
  | 0, m, a, y, a1, h => by
    unfold tkCf at h
    split at h
    · injection h with h _; rw [h]
    · cases h
  | r + 1, m, a, y, a1, h => by
    unfold tkCf at h
    obtain ⟨b, a2, _, h⟩ := Rr.bind_okE h
    exact (tkCf_dq r _ a2 h).trans (setCd_dl _ _ _)
theorem tkLv_dq {q : List UInt8} {n : Nat} : ∀ (r : Nat) (m : Mb) (s : St) (a : Nat) {y : Mb × St} {a1 : Nat}, tkLv q n r m s a = .ok y a1 → y.1.dl = m.dl ∧ y.2.q = s.q
  | 0, m, s, a, y, a1, h => by injection h with h _; rw [← h]; exact ⟨rfl, rfl⟩
  | r + 1, m, s, a, y, a1, h => by
    unfold tkLv at h
    split at h
    · split at h
      · obtain ⟨l, a2, _, h⟩ := Rr.bind_okE h
        split at h
        · cases h
        · obtain ⟨e1, e2⟩ := tkLv_dq r _ s a2 h
          exact ⟨e1, e2⟩
      · obtain ⟨d, a2, _, h⟩ := Rr.bind_okE h
        obtain ⟨l, a3, _, h⟩ := Rr.bind_okE h
        obtain ⟨e1, e2⟩ := tkLv_dq r _ _ a3 h
        exact ⟨e1, e2.trans (setD_q _ _ _)⟩
    · exact tkLv_dq r m s a h
theorem tkKd_dq {c : Cx} {q : List UInt8} {n a : Nat} {y : Mb × Bool} {a1 : Nat} (h : tkKd c q n a = .ok y a1) : y.1.dl = 0 := by
  unfold tkKd at h
  split at h
  · injection h with h _; rw [← h]; rfl
  · obtain ⟨v, a2, _, h⟩ := Rr.bind_okE h
    repeat' split at h
    all_goals first | (cases h; done) | (cases h; rfl)
/-- What a macroblock does to the quantiser. -/
theorem mtkA_q {c : Cx} {q : List UInt8} {n a : Nat} {s : St} {y : Mb × St} {a1 : Nat} (h : mtkA c s q n a = .ok y a1) : y.2.q = s.q + y.1.dl ∧ 1 ≤ y.2.q ∧ y.2.q ≤ 31 := by
  unfold mtkA at h
  split at h
  · rename_i hv
    rw [Bool.and_eq_true] at hv
    have hsq := (vst_b hv.2).1
    unfold mtk at h
    obtain ⟨x, a2, h1, h⟩ := Rr.bind_okE h
    have e0 := tkKd_dq h1
    unfold tkRs at h
    obtain ⟨y2, a3, h2, h⟩ := Rr.bind_okE h
    obtain ⟨y3, a4, h3, h⟩ := Rr.bind_okE h
    obtain ⟨m4, a5, h4, h⟩ := Rr.bind_okE h
    obtain ⟨y5, a6, h5, h⟩ := Rr.bind_okE h
    obtain ⟨p1, p2⟩ := tkPr_dq h2
    obtain ⟨c1, c2⟩ := tkCh_dq h3 (p1.trans e0) (by rw [p2]; exact hsq)
    obtain ⟨l1, l2⟩ := tkLv_dq _ _ _ _ h5
    have c3 : m4.dl = y3.1.dl := by
      unfold tkCo at h4
      split at h4
      · exact tkCf_dq _ _ _ h4
      · injection h4 with h4 _; rw [h4]
    injection h with h _
    rw [← h]
    have e1 : (aft y5.2 y5.1.k).q = y3.2.q := l2
    dsimp only
    rw [e1, l1, c3, c1, p2]
    rw [p2] at c1
    omega
  · cases h

/-- The quantisers, one after each macroblock. -/
def sums : Int → List Mb → List Int
  | _, [] => []
  | q, m :: r => (q + m.dl) :: sums (q + m.dl) r
theorem slL_sums {c : Cx} {q : List UInt8} {n : Nat} : ∀ (r : Nat) (s : St) (a : Nat) {z : List Mb × St} {a1 : Nat}, slL c q n r s a = .ok z a1 → z.1.length = r ∧ (∀ x ∈ sums s.q z.1, 1 ≤ x ∧ x ≤ 31)
  | 0, s, a, z, a1, h => by
    injection h with h _
    rw [← h]
    exact ⟨rfl, fun x hx => by cases hx⟩
  | r + 1, s, a, z, a1, h => by
    unfold slL at h
    obtain ⟨y, a2, h1, h⟩ := Rr.bind_okE h
    obtain ⟨w, a3, h2, h⟩ := Rr.bind_okE h
    injection h with h _
    rw [← h]
    obtain ⟨e1, e2⟩ := mtkA_q h1
    obtain ⟨l1, l2⟩ := slL_sums r y.2 a2 h2
    refine ⟨by simp [l1], fun x hx => ?_⟩
    simp only [sums] at hx
    rw [← e1] at hx
    rcases List.mem_cons.1 hx with rfl | hx
    · exact e2
    · exact l2 x hx

theorem slL_lv {c : Cx} {q : List UInt8} {n : Nat} : ∀ (r : Nat) (s : St) (a : Nat) {z : List Mb × St} {a1 : Nat}, slL c q n r s a = .ok z a1 → a ≤ n → ∀ x ∈ z.1, x.lv.length = 384
  | 0, s, a, z, a1, h, _ => by
    injection h with h _
    rw [← h]
    exact fun x hx => by cases hx
  | r + 1, s, a, z, a1, h, ha => by
    unfold slL at h
    obtain ⟨y, a2, h1, h⟩ := Rr.bind_okE h
    obtain ⟨w, a3, h2, h⟩ := Rr.bind_okE h
    injection h with h _
    rw [← h]
    obtain ⟨e1, e2⟩ := mtkA_b h1 ha
    intro x hx
    rcases List.mem_cons.1 hx with rfl | hx
    · exact e2
    · exact slL_lv r y.2 a2 h2 e1 x hx

theorem prows_b4 {s : Sq} {p : Pi} : 0 ≤ prows s p ∧ prows s p ≤ 4 := by
  unfold prows
  split
  · rename_i hv
    have := pvalid_h hv
    split
    · have := Int.tdiv_eq_ediv_of_nonneg (a := s.h) (b := 16) (by omega)
      omega
    · have := Int.tdiv_eq_ediv_of_nonneg (a := s.h) (b := 32) (by omega)
      omega
  · omega
theorem pic_sc4 (p : Pi) (n : Nat) : ∀ x ∈ pic p, Scoped n x := fun x hx => by
  simp only [pic, List.mem_cons, List.not_mem_nil, or_false] at hx
  rcases hx with rfl | rfl | rfl | rfl | rfl | rfl
  · exact .int _ _
  · exact .int _ _
  · exact .int _ _
  · exact .bool _
  · exact .bool _
  · exact .bool _

end Go.Proofs.Ytcabpncdgagihaa.Sc

namespace Go.Proofs.Ytcabpncdgagihaa.Sc
set_option linter.all false
set_option linter.unusedVariables false
set_option linter.unusedSimpArgs false
open Pm Ty Go.RowKit

/-- Of a block it is enough to know the first cells. -/
theorem _root_.Go.Proofs.Ytcabpncdgagihaa.Pm.WRel.short {C : Ctx} {H : Heap} {w : World} {i m : Nat} {k : Blk} (hw : WRel C H w) (hk : H[i]? = some k) (hint : ∃ (j : Nat) (t : IntKind) (n : Int), k.cells[j]? = some (.int t n)) : WRel C (H.set i ⟨k.e, k.ver, k.cells.take m⟩) w := by
  have hi : i < H.length := (List.getElem?_eq_some_iff.1 hk).1
  have g : ∀ (id : Nat) (x : Blk), (H.set i ⟨k.e, k.ver, k.cells.take m⟩)[id]? = some x → (id = i ∧ x = ⟨k.e, k.ver, k.cells.take m⟩) ∨ (id ≠ i ∧ H[id]? = some x) := fun id x h => by
    by_cases e : i = id
    · subst e
      rw [List.getElem?_set_self hi] at h
      injection h with h
      exact .inl ⟨rfl, h.symm⟩
    · rw [List.getElem?_set_ne e] at h
      exact .inr ⟨fun e' => e e'.symm, h⟩
  obtain ⟨a1, a2, a3, a4, a5, a6, a7, a8, a9, a10, a11, a12⟩ := hw
  refine ⟨a1, a2, a3, by rw [List.length_set]; exact a4, by rw [List.length_set]; exact a5, by rw [List.length_set]; exact a6, fun id x h => ?_, fun id x h hm => ?_, fun id x b h hm => ?_, a10, a11, a12⟩
  · rcases g id x h with ⟨rfl, rfl⟩ | ⟨_, h⟩
    · exact a7 id k hk
    · exact a7 _ _ h
  · rcases g id x h with ⟨rfl, rfl⟩ | ⟨_, h⟩
    · obtain ⟨j, t, n, hj⟩ := hint
      rcases a8 _ _ hk hm with ⟨_, e⟩ | ⟨b, es, cl, q1, q2, q3, q4, q5⟩
      · rw [e] at hj; cases hj
      · have hjl := (List.getElem?_eq_some_iff.1 hj).1
        obtain ⟨e, he⟩ : ∃ e, es[j]? = some e := ⟨_, Array.getElem?_eq_getElem (by omega)⟩
        have := q5 j _ e hj he
        cases this
    · exact a8 _ _ h hm
  · rcases g id x h with ⟨rfl, rfl⟩ | ⟨_, h⟩
    · obtain ⟨cur, q1, q2, q3, q4, q5, q6⟩ := a9 _ _ b hk hm
      exact ⟨cur, q1, q2, q3, fun x hx => q4 x (List.mem_of_mem_take hx), by simp only [List.length_take]; omega, fun j x u hx hu => q6 j x u (by
        simp only [List.getElem?_take] at hx
        split at hx
        · exact hx
        · cases hx) hu⟩
    · exact a9 _ _ b h hm
theorem _root_.Go.Proofs.Ytcabpncdgagihaa.Pm.CallEx.short {P : Program} {f : FuncId} {args : List PV} {H Ho : Heap} {R : PV → Heap → Prop} {v0 : PV} {i m : Nat} (h : CallEx P f args H R) (hr : ∀ v H', R v H' → v = v0 ∧ ∃ k, H'[i]? = some k ∧ (∃ (j : Nat) (t : IntKind) (n : Int), k.cells[j]? = some (.int t n)) ∧ Ho = H'.set i ⟨k.e, k.ver, k.cells.take m⟩) : CallOk P f args H v0 Ho :=
  ⟨h.1, fun C us w hw hargs => (h.2 C us w hw hargs).mono fun e w' ⟨C', u, v, H', q0, q1, q2, q3, q4, q5⟩ => by
    obtain ⟨rfl, k, h1, h2, rfl⟩ := hr v H' q0
    exact ⟨C', u, q1, q2.short h1 h2, q3, q4, q5⟩⟩

/-- A reader, of which the place is not known any more. -/
def rT (j v n : Nat) : Blk := ⟨184, 0, [.msl j v 0 n 1 true]⟩
def rO {α : Type} (j v n : Nat) : Rr α → Blk
  | .ok _ a => rR j v n a
  | .er _ _ => rT j v n
theorem takeD_ref (i j v : Nat) (q : List UInt8) (n a : Nat) (c : Cx) (s : St) (H : Heap) (hA : H[i]? = some (rR j v n a)) (hB : H[j]? = some (rB q v)) (hne : i ≠ j) (ha : a ≤ n) (hn : n ≤ 8 * q.length) (hq : q.length ≤ 100000000) :
    CallOk Try.prog 111 [.ptr i 0 0, .agg (cxc c), .agg (stc s)] H (rvM (mtkA c s q n a)) (H.set i (rO j v n (mtkA c s q n a))) := by
  have h := take_ref i j v q n a c s H hA hB hne ha hn hq
  have hi := (List.getElem?_eq_some_iff.1 hA).1
  cases hm : mtkA c s q n a with
  | ok y a1 =>
    rw [hm] at h
    exact (h.mono fun v H' hR => hR).one
  | er e a1 =>
    rw [hm] at h
    refine CallEx.short (i := i) (m := 1) h fun v' H' hR => ⟨hR.1, ?_⟩
    obtain ⟨a2, _, rfl⟩ := hR.2
    exact ⟨rR j v n a2, by simp [hi], ⟨1, .i64, (a2 : Int), rfl⟩, by rw [List.set_set]; rfl⟩

/-- A slice's macroblocks and quantisers. -/
def sqL (c : Cx) (q : List UInt8) (n : Nat) : Nat → St → Nat → Rr (List Mb × List Int)
  | 0, _, a => .ok ([], []) a
  | r + 1, s, a => (mtkA c s q n a).bind fun y a1 => (sqL c q n r y.2 a1).bind fun z a2 => .ok (y.1 :: z.1, y.2.q :: z.2) a2
def sqT (s : Sq) (p : Pi) (b : Bool) (t : Int) (q : List UInt8) : Rr (Nat × List Mb × List Int) :=
  if fitB s p b && (decide (1 ≤ t) && decide (t < 1 + prows s p)) then
    (if q.length = 0 ∨ lastB q = 0 then .er 2 0 else if nb q < 5 then .er 3 0 else if vl q 0 5 = 0 then .er 2 0 else
      (sqL (cxP s p b) q (nb q) (wmb s) (st0 (vl q 0 5 : Int)) 5).bind fun z a => if a = nb q then .ok (vl q 0 5, z.1, z.2) a else .er 2 a) else .er 0 0
def qC (l : List Int) : List PV := l.map (PV.int .i64)
theorem qC_len (l : List Int) : (qC l).length = l.length := by simp [qC]
theorem qC_snoc (l : List Int) (x : Int) : qC (l ++ [x]) = qC l ++ [.int .i64 x] := by simp [qC]
theorem qC_sc (l : List Int) (n : Nat) : ∀ x ∈ qC l, Scoped n x := fun x hx => by
  obtain ⟨y, _, rfl⟩ := List.mem_map.1 hx
  exact .int _ _
def ag0 : PV := .agg [.int .i64 0, .slice [] 0 true, .slice [] 0 true]
def agS (v : Int) (D : List Mb) (qs : List Int) : PV := .agg [.int .i64 v, .slice (D.flatMap mbc) D.length false, .slice (qC qs) qs.length false]
def rvQ : Rr (Nat × List Mb × List Int) → PV
  | .ok x _ => .tup [agS (x.1 : Int) x.2.1 x.2.2, .int .i64 0]
  | .er e _ => .tup [ag0, ecd e]
theorem stc_sc4 (s : St) (n : Nat) : ∀ x ∈ stc s, Scoped n x := fun x hx => by
  simp only [stc, List.mem_cons, List.not_mem_nil, or_false] at hx
  rcases hx with rfl | rfl | rfl | rfl | rfl | rfl | rfl | rfl
  all_goals exact .int _ _
/-- What TakeSlice has in memory. -/
def ulH (H : Heap) (s : Sq) (p : Pi) (t : Int) (q : List UInt8) (f : Bool) (V n a v k : Nat) (st : St) (D : List Mb) (qs : List Int) : Heap := H ++ [⟨62, 0, sqc s⟩, ⟨64, 0, pic p⟩, ⟨105, 0, [.int .i64 t, .slice (bs q) q.length f]⟩, ⟨118, 0, [.int .i64 0, .slice [] 0 true, .slice [] 0 true]⟩, rB q V, rR (H.length + 4) V n a,
  ⟨118, 0, [.int .i64 (v : Int), .msl (H.length + 8) (k * 408) 0 k 408 true, .msl (H.length + 9) k 0 k 1 true]⟩, ⟨29, 0, stc st⟩, ⟨49, k * 408, D.flatMap mbc⟩, ⟨3, k, qC qs⟩]
theorem uni_sc (t : Int) (q : List UInt8) (f : Bool) (n : Nat) : ∀ x ∈ ([.int .i64 t, .slice (bs q) q.length f] : List PV), Scoped n x := fun x hx => by
  simp only [List.mem_cons, List.not_mem_nil, or_false] at hx
  rcases hx with rfl | rfl
  · exact .int _ _
  · exact sl_scoped (bs_scoped _ _)
theorem hsc_ulH (H : Heap) (s : Sq) (p : Pi) (t : Int) (q : List UInt8) (f : Bool) (V n a v k : Nat) (st : St) (D : List Mb) (qs : List Int) (h : HSc H) : HSc (ulH H s p t q f V n a v k st D qs) := hscW (fun b hb x hx => by
  simp only [List.mem_cons, List.not_mem_nil, or_false] at hb
  simp only [List.length_cons, List.length_nil]
  rcases hb with rfl | rfl | rfl | rfl | rfl | rfl | rfl | rfl | rfl | rfl
  · exact sqc_scoped _ _ x hx
  · exact pic_sc4 _ _ x hx
  · exact uni_sc _ _ _ _ x hx
  · simp only [List.mem_cons, List.not_mem_nil, or_false] at hx
    rcases hx with rfl | rfl | rfl
    · exact .int _ _
    · exact sl_scoped (fun x hx => by cases hx)
    · exact sl_scoped (fun x hx => by cases hx)
  · exact bs_scoped _ _ x hx
  · simp only [rR, List.mem_cons, List.not_mem_nil, or_false] at hx
    rcases hx with rfl | rfl
    · exact .msl (by omega)
    · exact .int _ _
  · simp only [List.mem_cons, List.not_mem_nil, or_false] at hx
    rcases hx with rfl | rfl | rfl
    · exact .int _ _
    · exact .msl (by omega)
    · exact .msl (by omega)
  · exact stc_sc4 _ _ x hx
  · exact mbl_sc _ _ x hx
  · exact qC_sc _ _ x hx) h
theorem Q_sc (n : Nat) (e : Int) : Scoped n (.tup [ag0, .int .i64 e]) := .tup (all_scoped' fun x hx => by
  simp only [List.mem_cons, List.not_mem_nil, or_false] at hx
  rcases hx with rfl | rfl
  · exact .agg (all_scoped' fun x hx => by
      simp only [List.mem_cons, List.not_mem_nil, or_false] at hx
      rcases hx with rfl | rfl | rfl
      · exact .int _ _
      · exact sl_scoped (fun x hx => by cases hx)
      · exact sl_scoped (fun x hx => by cases hx))
  · exact .int _ _)

set_option maxHeartbeats 8000000 in
set_option maxRecDepth 100000 in
theorem slice_ref (s : Sq) (p : Pi) (b : Bool) (t : Int) (q : List UInt8) (f : Bool) (H : Heap) (hs : SqOk s) (ht : i64r t) (hq : q.length ≤ 100000000) :
    CallOk Try.prog 91 [.agg (sqc s), .agg (pic p), .bool b, .agg [.int .i64 t, .slice (bs q) q.length f]] H (rvQ (sqT s p b t q)) H := by
  have fo := fun K => may_ref s p b K hs
  have ro := fun K => prows_ref s p K hs
  have co := fun K => ctx_ref s p b K hs
  have h1 := sqc_cell s
  have h2 := sqc_len s hs
  have h3 := sqc_tk s hs
  have h4 := sqc_w s
  have p6 : (pic p).length = 6 := rfl
  have t6 : List.take 6 (pic p) = pic p := rfl
  have l8 : ∀ t, (stc t).length = 8 := fun _ => rfl
  have c8 : ∀ t, (stc t).all PV.cell = true := fun _ => rfl
  have tk8 : ∀ t, List.take 8 (stc t) = stc t := fun _ => rfl
  have dk8 : ∀ t, List.drop 8 (stc t) = [] := fun _ => rfl
  generalize hres : sqT s p b t q = res
  unfold sqT at hres
  refine CallOk.body (F0 := [(0, .agg (sqc s)), (1, .agg (pic p)), (2, .bool b), (3, .agg [.int .i64 t, .slice (bs q) q.length f])]) Try.func91 rfl Try.ntmps91 Try.results91 rfl (by kernel_rfl) rfl ?_
  (repeat refine PW.seq ?_); refine PW.rg rfl fun K hK => ?_; simp (maxSteps := 3000000) (disch := omega) only [go_sem, ↓reduceIte, reduceCtorEq, pappend, plen, h1, pic]; refine hK _ _ ?_; clear hK K
  suffices hrest : PW Try.prog _ _ [(2, .bool b), (4, .ptr H.length 0 0), (5, .ptr (H.length + 1) 0 0), (7, .ptr (H.length + 2) 0 0), (8, .ptr (H.length + 3) 0 0), (39, .bool (!(fitB s p b && (decide (1 ≤ t) && decide (t < 1 + prows s p)))))] (H ++ [⟨62, 0, sqc s⟩, ⟨64, 0, pic p⟩, ⟨105, 0, [.int .i64 t, .slice (bs q) q.length f]⟩, ⟨118, 0, [.int .i64 0, .slice [] 0 true, .slice [] 0 true]⟩]) _ by
    (repeat refine PW.seq ?_); refine PW.rg rfl fun K hK => ?_; simp (maxSteps := 3000000) (disch := omega) only [go_sem, ↓reduceIte, reduceCtorEq, pappend, plen]; refine hK _ _ ?_; clear hK K
    cases hf : fitB s p b with
    | false =>
      rw [hf] at fo hrest
      (repeat refine PW.seq ?_); refine PW.rg rfl fun K hK => ?_; simp (maxSteps := 3000000) (disch := omega) only [go_sem, ↓reduceIte, reduceCtorEq, pappend, plen, h2, h3, p6, t6]
      refine VCx.call (fo _) rfl ?_; simp (maxSteps := 3000000) (disch := omega) only [go_sem, ↓reduceIte, reduceCtorEq, pappend, plen]; refine hK _ _ ?_; clear hK K
      exact PW.at [2, 4, 5, 7, 8, 39] hrest rfl rfl
    | true =>
      rw [hf] at fo hrest
      rw [Bool.true_and] at hrest
      by_cases ht1 : 1 ≤ t
      · have d1 : decide (t < 1) = false := decide_eq_false (by omega)
        have hpr := prows_b4 (s := s) (p := p)
        have w1 : IntKind.i64.wrap (t - 1) = t - 1 := w64 _ (by unfold i64r at ht; omega)
        have d2 : decide (prows s p ≤ t - 1) = !decide (t < 1 + prows s p) := by
          by_cases h : t < 1 + prows s p
          · rw [decide_eq_true h, decide_eq_false (by omega)]; rfl
          · rw [decide_eq_false h, decide_eq_true (by omega)]; rfl
        rw [decide_eq_true ht1, Bool.true_and, ← d2] at hrest
        (repeat refine PW.seq ?_); refine PW.rg rfl fun K hK => ?_; simp (maxSteps := 3000000) (disch := omega) only [go_sem, ↓reduceIte, reduceCtorEq, pappend, plen, h2, h3, p6, t6]
        refine VCx.call (fo _) rfl ?_; simp (maxSteps := 3000000) (disch := omega) only [go_sem, ↓reduceIte, reduceCtorEq, pappend, plen, d1, h2, h3, p6, t6, w1]
        refine VCx.call (ro _) rfl ?_; simp (maxSteps := 3000000) (disch := omega) only [go_sem, ↓reduceIte, reduceCtorEq, pappend, plen]; refine hK _ _ ?_; clear hK K
        exact PW.at [2, 4, 5, 7, 8, 39] hrest rfl rfl
      · have d1 : decide (t < 1) = true := decide_eq_true (by omega)
        rw [decide_eq_false ht1, Bool.false_and] at hrest
        (repeat refine PW.seq ?_); refine PW.rg rfl fun K hK => ?_; simp (maxSteps := 3000000) (disch := omega) only [go_sem, ↓reduceIte, reduceCtorEq, pappend, plen, h2, h3, p6, t6]
        refine VCx.call (fo _) rfl ?_; simp (maxSteps := 3000000) (disch := omega) only [go_sem, ↓reduceIte, reduceCtorEq, pappend, plen, d1]; refine hK _ _ ?_; clear hK K
        exact PW.at [2, 4, 5, 7, 8, 39] hrest rfl rfl
  cases hc : (fitB s p b && (decide (1 ≤ t) && decide (t < 1 + prows s p))) with
  | false =>
    rw [hc, if_neg (by decide)] at hres
    (repeat refine PW.seq ?_); refine PW.cond (t := _) rfl (fun h => ?_) (fun h => ?_)
    rotate_left
    · cases h
    (repeat refine PW.seq ?_); refine PW.rg rfl fun K hK => ?_; simp (maxSteps := 3000000) (disch := omega) only [go_sem, ↓reduceIte, reduceCtorEq, pappend, plen]; refine hK _ _ ?_; clear hK K
    refine PW.ret ⟨.tup [ag0, .int .i64 1], by simp (maxSteps := 3000000) (disch := omega) only [go_sem, ↓reduceIte, reduceCtorEq, pappend, plen, presults, presult, List.mapM_cons, List.mapM_nil, Option.pure_def, Option.bind_eq_bind, Option.bind_some, Array.toList, ag0], ?_⟩
    rw [← hres]
    exact Fin.base (.id (Q_sc _ _))
  | true =>
    rw [hc, if_pos rfl] at hres
    rw [Bool.and_eq_true] at hc
    have hw : 1 ≤ wmb s ∧ wmb s ≤ 4 ∧ s.w.tdiv 16 = ((wmb s : Nat) : Int) := by
      have hv : pvalid s p = true := by
        have := hc.1
        unfold fitB at this
        rw [Bool.and_eq_true] at this
        exact this.1
      have := pvalid_h hv
      have e := Int.tdiv_eq_ediv_of_nonneg (a := s.w) (b := 16) (by omega)
      unfold wmb
      omega
    clear fo ro hc
    (repeat refine PW.seq ?_); refine PW.cond (t := _) rfl (fun h => ?_) (fun h => ?_)
    · cases h
    refine PW.skip ?_
    by_cases hb : q.length = 0 ∨ lastB q = 0
    · rw [if_pos hb] at hres
      have nr := fun K => open_bad q f K hq hb
      (repeat refine PW.seq ?_); refine PW.rg rfl fun K hK => ?_; simp (maxSteps := 3000000) (disch := omega) only [go_sem, ↓reduceIte, reduceCtorEq, pappend, plen]; refine VCx.call (nr _) rfl ?_; simp (maxSteps := 3000000) (disch := omega) only [go_sem, ↓reduceIte, reduceCtorEq, pappend, plen]; refine hK _ _ ?_; clear hK K
      (repeat refine PW.seq ?_); refine PW.rg rfl fun K hK => ?_; simp (maxSteps := 3000000) (disch := omega) only [go_sem, ↓reduceIte, reduceCtorEq, pappend, plen]; refine hK _ _ ?_; clear hK K
      (repeat refine PW.seq ?_); refine PW.cond (t := _) rfl (fun h => ?_) (fun h => ?_)
      rotate_left
      · cases h
      (repeat refine PW.seq ?_); refine PW.rg rfl fun K hK => ?_; simp (maxSteps := 3000000) (disch := omega) only [go_sem, ↓reduceIte, reduceCtorEq, pappend, plen]; refine hK _ _ ?_; clear hK K
      refine PW.ret ⟨.tup [ag0, .int .i64 3], by simp (maxSteps := 3000000) (disch := omega) only [go_sem, ↓reduceIte, reduceCtorEq, pappend, plen, presults, presult, List.mapM_cons, List.mapM_nil, Option.pure_def, Option.bind_eq_bind, Option.bind_some, Array.toList, ag0], ?_⟩
      rw [← hres]
      exact Fin.base (.id (Q_sc _ _))
    rw [if_neg hb] at hres
    obtain ⟨hb1, hb2⟩ := not_or.1 hb
    have nr := fun K => open_ok q f K hq hb1 hb2
    obtain ⟨_, n2, _⟩ := nb_one q hb1 hb2
    obtain ⟨V, hV⟩ : ∃ V, V = 8 * q.length := ⟨_, rfl⟩
    rw [← hV] at nr n2
    generalize nb q = n at *
    (repeat refine PW.seq ?_); refine PW.rg rfl fun K hK => ?_; simp (maxSteps := 3000000) (disch := omega) only [go_sem, ↓reduceIte, reduceCtorEq, pappend, plen]; refine VCx.call (nr _) rfl ?_; simp (maxSteps := 3000000) (disch := omega) only [go_sem, ↓reduceIte, reduceCtorEq, pappend, plen]; refine hK _ _ ?_; clear hK K
    (repeat refine PW.seq ?_); refine PW.rg rfl fun K hK => ?_; simp (maxSteps := 3000000) (disch := omega) only [go_sem, ↓reduceIte, reduceCtorEq, pappend, plen]; refine hK _ _ ?_; clear hK K
    (repeat refine PW.seq ?_); refine PW.cond (t := _) rfl (fun h => ?_) (fun h => ?_)
    · cases h
    refine PW.skip ?_
    have gr := fun a X => (apn H ([⟨62, 0, sqc s⟩, ⟨64, 0, pic p⟩, ⟨105, 0, [.int .i64 t, .slice (bs q) q.length f]⟩, ⟨118, 0, [.int .i64 0, .slice [] 0 true, .slice [] 0 true]⟩, rB q V, rR (H.length + 4) V n a] ++ X) 5)
    have gb := fun a X => (apn H ([⟨62, 0, sqc s⟩, ⟨64, 0, pic p⟩, ⟨105, 0, [.int .i64 t, .slice (bs q) q.length f]⟩, ⟨118, 0, [.int .i64 0, .slice [] 0 true, .slice [] 0 true]⟩, rB q V, rR (H.length + 4) V n a] ++ X) 4)
    by_cases h5 : n < 5
    · rw [if_pos h5] at hres
      have tk := rtake_shr (H.length + 5) (H.length + 4) V q n 0 5 _ (gr 0 []) (gb 0 []) (by omega) (by omega) (by omega) (by omega)
      (repeat refine PW.seq ?_); refine PW.rg rfl fun K hK => ?_; simp (maxSteps := 3000000) (disch := omega) only [go_sem, ↓reduceIte, reduceCtorEq, pappend, plen]; refine VCx.call (tk) rfl ?_; simp (maxSteps := 3000000) (disch := omega) only [go_sem, ↓reduceIte, reduceCtorEq, pappend, plen]; refine hK _ _ ?_; clear hK K
      (repeat refine PW.seq ?_); refine PW.rg rfl fun K hK => ?_; simp (maxSteps := 3000000) (disch := omega) only [go_sem, ↓reduceIte, reduceCtorEq, pappend, plen]; refine hK _ _ ?_; clear hK K
      (repeat refine PW.seq ?_); refine PW.cond (t := _) rfl (fun h => ?_) (fun h => ?_)
      rotate_left
      · cases h
      (repeat refine PW.seq ?_); refine PW.rg rfl fun K hK => ?_; simp (maxSteps := 3000000) (disch := omega) only [go_sem, ↓reduceIte, reduceCtorEq, pappend, plen]; refine hK _ _ ?_; clear hK K
      refine PW.ret ⟨.tup [ag0, .int .i64 4], by simp (maxSteps := 3000000) (disch := omega) only [go_sem, ↓reduceIte, reduceCtorEq, pappend, plen, presults, presult, List.mapM_cons, List.mapM_nil, Option.pure_def, Option.bind_eq_bind, Option.bind_some, Array.toList, ag0], ?_⟩
      rw [← hres]
      exact Fin.base (.id (Q_sc _ _))
    rw [if_neg h5] at hres
    have tk := rtake_ref (H.length + 5) (H.length + 4) V q n 0 5 _ (gr 0 []) (gb 0 []) (by omega) (by omega) (by omega) (by omega) (by omega)
    rw [aps] at tk
    simp only [List.append_nil, List.cons_append, List.nil_append, List.set_cons_succ, List.set_cons_zero, Nat.zero_add] at tk
    have hvl := vl_lt q 0 5
    generalize vl q 0 5 = v at *
    (repeat refine PW.seq ?_); refine PW.rg rfl fun K hK => ?_; simp (maxSteps := 3000000) (disch := omega) only [go_sem, ↓reduceIte, reduceCtorEq, pappend, plen]; refine VCx.call (tk) rfl ?_; simp (maxSteps := 3000000) (disch := omega) only [go_sem, ↓reduceIte, reduceCtorEq, pappend, plen]; refine hK _ _ ?_; clear hK K
    (repeat refine PW.seq ?_); refine PW.rg rfl fun K hK => ?_; simp (maxSteps := 3000000) (disch := omega) only [go_sem, ↓reduceIte, reduceCtorEq, pappend, plen]; refine hK _ _ ?_; clear hK K
    (repeat refine PW.seq ?_); refine PW.cond (t := _) rfl (fun h => ?_) (fun h => ?_)
    · cases h
    refine PW.skip ?_
    by_cases hv0 : v = 0
    · rw [if_pos hv0] at hres
      have d1 : ((v : Int) == 0) = true := by simp [hv0]
      (repeat refine PW.seq ?_); refine PW.rg rfl fun K hK => ?_; simp (maxSteps := 3000000) (disch := omega) only [go_sem, ↓reduceIte, reduceCtorEq, pappend, plen, d1]; refine hK _ _ ?_; clear hK K
      (repeat refine PW.seq ?_); refine PW.cond (t := _) rfl (fun h => ?_) (fun h => ?_)
      rotate_left
      · cases h
      (repeat refine PW.seq ?_); refine PW.rg rfl fun K hK => ?_; simp (maxSteps := 3000000) (disch := omega) only [go_sem, ↓reduceIte, reduceCtorEq, pappend, plen]; refine hK _ _ ?_; clear hK K
      refine PW.ret ⟨.tup [ag0, .int .i64 3], by simp (maxSteps := 3000000) (disch := omega) only [go_sem, ↓reduceIte, reduceCtorEq, pappend, plen, presults, presult, List.mapM_cons, List.mapM_nil, Option.pure_def, Option.bind_eq_bind, Option.bind_some, Array.toList, ag0], ?_⟩
      rw [← hres]
      exact Fin.base (.id (Q_sc _ _))
    rw [if_neg hv0] at hres
    have d1 : ((v : Int) == 0) = false := by rw [beq_eq_false_iff_ne]; omega
    (repeat refine PW.seq ?_); refine PW.rg rfl fun K hK => ?_; simp (maxSteps := 3000000) (disch := omega) only [go_sem, ↓reduceIte, reduceCtorEq, pappend, plen, d1]; refine hK _ _ ?_; clear hK K
    (repeat refine PW.seq ?_); refine PW.cond (t := _) rfl (fun h => ?_) (fun h => ?_)
    · cases h
    refine PW.skip ?_
    have co1 := fun K => co K
    generalize cxP s p b = c at *
    obtain ⟨w1, w2, w3⟩ := hw
    generalize wmb s = w at *
    (repeat refine PW.seq ?_); refine PW.rg rfl fun K hK => ?_; simp (maxSteps := 3000000) (disch := omega) only [go_sem, ↓reduceIte, reduceCtorEq, pappend, plen, apn, aps]; refine hK _ _ ?_; clear hK K
    (repeat refine PW.seq ?_); refine PW.rg rfl fun K hK => ?_; simp (maxSteps := 3000000) (disch := omega) only [go_sem, ↓reduceIte, reduceCtorEq, pappend, plen, apn, aps, List.length_append, List.length_cons, List.length_nil, Nat.reduceAdd]; refine hK _ _ ?_; clear hK K
    (repeat refine PW.seq ?_); refine PW.rg rfl fun K hK => ?_; simp (maxSteps := 3000000) (disch := omega) only [go_sem, ↓reduceIte, reduceCtorEq, pappend, plen]; refine hK _ _ ?_; clear hK K
    refine PW.eq rfl (show _ = H ++ [⟨62, 0, sqc s⟩, ⟨64, 0, pic p⟩, ⟨105, 0, [.int .i64 t, .slice (bs q) q.length f]⟩, ⟨118, 0, [.int .i64 0, .slice [] 0 true, .slice [] 0 true]⟩, rB q V, rR (H.length + 4) V n 5, ⟨118, 0, [.int .i64 (v : Int), .slice [] 0 true, .slice [] 0 true]⟩, ⟨29, 0, stc (st0 v)⟩] from rfl) ?_
    (repeat refine PW.seq ?_)
    refine PW.view (Vs.ghostH (id := H.length + 6) (j := 1) 49 408 (apn _ _ 6) rfl) ?_
    refine PW.eq rfl (show _ = H ++ [⟨62, 0, sqc s⟩, ⟨64, 0, pic p⟩, ⟨105, 0, [.int .i64 t, .slice (bs q) q.length f]⟩, ⟨118, 0, [.int .i64 0, .slice [] 0 true, .slice [] 0 true]⟩, rB q V, rR (H.length + 4) V n 5, ⟨118, 0, [.int .i64 (v : Int), .msl (H.length + 8) 0 0 0 408 true, .slice [] 0 true]⟩, ⟨29, 0, stc (st0 v)⟩, ⟨49, 0, []⟩] by rw [aps, List.append_assoc]; simp) ?_
    refine PW.view (Vs.ghostH (id := H.length + 6) (j := 2) 3 1 (apn _ _ 6) rfl) ?_
    refine PW.eq rfl (?_ : _ = ulH H s p t q f V n 5 v 0 (st0 v) [] []) ?_
    · rw [aps, List.append_assoc]
      simp [ulH, qC]
    (repeat refine PW.seq ?_); refine PW.block (PW.loop ?_)
    suffices hl1 : ∀ (k : Nat) (D : List Mb) (qs : List Int) (st : St) (a : Nat), k ≤ w → D.length = k → qs.length = k → (∀ x ∈ D, x.lv.length = 384) → a ≤ n → ((sqL c q n (w - k) st a).bind fun z a => if a = n then Rr.ok (v, D ++ z.1, qs ++ z.2) a else .er 2 a) = res →
        PL Try.prog _ _ [(2, .bool b), (4, .ptr H.length 0 0), (5, .ptr (H.length + 1) 0 0), (8, .ptr (H.length + 3) 0 0), (11, .ptr (H.length + 5) 0 0), (14, .ptr (H.length + 6) 0 0), (15, .ptr (H.length + 7) 0 0), (16, .int .i64 (k : Int))] (ulH H s p t q f V n a v k st D qs) _ by
      exact PL.at [2, 4, 5, 8, 11, 14, 15, 16] (hl1 0 [] [] (st0 v) 5 (by omega) rfl rfl (fun x hx => by cases hx) (by omega) hres) rfl rfl
    clear hres gr gb tk nr
    have fz : ∀ (H1 : Heap) (k : Nat) (F : Fr) (K : Heap), H1.length = H.length + 10 → slot F 2 = .bool b → slot F 4 = .ptr H.length 0 0 → slot F 5 = .ptr (H.length + 1) 0 0 → slot F 8 = .ptr (H.length + 3) 0 0 → slot F 11 = .ptr (H.length + 5) 0 0 → slot F 14 = .ptr (H.length + 6) 0 0 → slot F 15 = .ptr (H.length + 7) 0 0 → slot F 16 = .int .i64 (k : Int) → FzF H1.length K F [(2, .bool b), (4, .ptr H.length 0 0), (5, .ptr (H.length + 1) 0 0), (8, .ptr (H.length + 3) 0 0), (11, .ptr (H.length + 5) 0 0), (14, .ptr (H.length + 6) 0 0), (15, .ptr (H.length + 7) 0 0), (16, .int .i64 (k : Int))] := fun H1 k F K hl q1 q2 q3 q4 q5 q6 q7 q8 => by
      refine ⟨?_, ?_, ?_, ?_, ?_, ?_, ?_, ?_, trivial⟩
      · rw [q1]; exact .id (.bool _)
      · rw [q2]; exact .id (.ptr (by omega))
      · rw [q3]; exact .id (.ptr (by omega))
      · rw [q4]; exact .id (.ptr (by omega))
      · rw [q5]; exact .id (.ptr (by omega))
      · rw [q6]; exact .id (.ptr (by omega))
      · rw [q7]; exact .id (.ptr (by omega))
      · rw [q8]; exact .id (.int _ _)
    intro k D qs st a hk hD hQ hDl ha hres
    induction hd : w - k using Nat.strongRecOn generalizing k D qs st a with
    | _ d ih =>
      refine PL.round ?_; (repeat refine PW.seq ?_); refine PW.rg rfl fun K hK => ?_; simp (maxSteps := 3000000) (disch := omega) only [go_sem, ↓reduceIte, reduceCtorEq, pappend, plen, ulH, h4, h2, w3, w64]; refine hK _ _ ?_; clear hK K
      (repeat refine PW.seq ?_); refine PW.cond (t := _) rfl (fun h => ?_) (fun h => ?_)
      · have h5k : k < w := by have := of_decide_eq_true h; omega
        obtain ⟨r, hr⟩ : ∃ r, d = r + 1 := ⟨d - 1, by omega⟩
        subst hr
        have hr2 : w - (k + 1) = r := by omega
        rw [hd, sqL, Rr.bind_bind] at hres
        have td := fun L hL hL' => takeD_ref (H.length + 5) (H.length + 4) V q n a c st L hL hL' (by omega) ha (by omega) hq
        refine PW.skip ?_; (repeat refine PW.seq ?_); refine PW.block ?_
        (repeat refine PW.seq ?_)
        refine PW.view (Vs.place 49) ?_
        refine PW.view (Vs.place 29) ?_
        refine PW.eq rfl (show _ = H ++ [⟨62, 0, sqc s⟩, ⟨64, 0, pic p⟩, ⟨105, 0, [.int .i64 t, .slice (bs q) q.length f]⟩, ⟨118, 0, [.int .i64 0, .slice [] 0 true, .slice [] 0 true]⟩, rB q V, rR (H.length + 4) V n a, ⟨118, 0, [.int .i64 (v : Int), .msl (H.length + 8) (k * 408) 0 k 408 true, .msl (H.length + 9) k 0 k 1 true]⟩, ⟨29, 0, stc st⟩, ⟨49, k * 408, D.flatMap mbc⟩, ⟨3, k, qC qs⟩, ⟨49, 0, []⟩, ⟨29, 0, []⟩] by simp [ulH]) ?_
        have hzl := zmv_len
        have hzc := zmv_cell
        have dz : List.drop 408 zmv = [] := List.drop_of_length_le (by omega)
        cases hm : mtkA c st q n a with
        | er e a1 =>
          rw [hm] at td hres
          simp only [rO, rvM, ecd] at td
          rw [Rr.bind_er] at hres
          have d0 : ((e : Int) + 1 != 0) = true := by simp; omega
          (repeat refine PW.seq ?_); refine PW.drawi [H.length + 5, H.length + 10, H.length + 11] [(11, [0]), (77, [0]), (17, [1]), (18, [2])] [(17, 1), (18, 2)] [81] mix (by kernel_rfl) (by simp <;> omega) fun K hK => ?_
          simp (maxSteps := 3000000) (disch := omega) only [go_sem, ↓reduceIte, reduceCtorEq, pappend, plen, apn, h2, h3, p6, t6, l8, tk8]
          refine VCj.read (fun _ _ => co1 _) rfl ?_
          simp (maxSteps := 3000000) (disch := omega) only [go_sem, ↓reduceIte, reduceCtorEq, pappend, plen, apn, aps, l8, tk8]
          refine VCj.wr1 (apn _ _ 5) (fun L hL hG => td L hL ((hG.out _ (by simp)).trans (apn _ _ 4))) (by simp (maxSteps := 3000000) (disch := omega) only [go_sem, ↓reduceIte, reduceCtorEq, pappend, plen]) (.inl rfl) rfl ?_
          simp (maxSteps := 3000000) (disch := omega) only [go_sem, ↓reduceIte, reduceCtorEq, pappend, plen, apn, aps, l8, tk8, hzl, hzc, dz, c8, dk8]
          refine hK _ _ ?_; clear hK K
          (repeat refine PW.seq ?_); refine PW.rg rfl fun K hK => ?_; simp (maxSteps := 3000000) (disch := omega) only [go_sem, ↓reduceIte, reduceCtorEq, pappend, plen, d0]; refine hK _ _ ?_; clear hK K
          (repeat refine PW.seq ?_); refine PW.cond (t := _) rfl (fun h => ?_) (fun h => ?_)
          rotate_left
          · cases h
          (repeat refine PW.seq ?_); refine PW.rg rfl fun K hK => ?_; simp (maxSteps := 3000000) (disch := omega) only [go_sem, ↓reduceIte, reduceCtorEq, pappend, plen, apn, aps]; refine hK _ _ ?_; clear hK K
          refine PW.ret ⟨.tup [ag0, .int .i64 ((e : Int) + 1)], by simp (maxSteps := 3000000) (disch := omega) only [go_sem, ↓reduceIte, reduceCtorEq, pappend, plen, presults, presult, List.mapM_cons, List.mapM_nil, Option.pure_def, Option.bind_eq_bind, Option.bind_some, Array.toList, ag0, apn, aps], ?_⟩
          rw [← hres]
          exact Fin.base (.id (Q_sc _ _))
        | ok y a1 =>
          rw [hm] at td hres
          simp only [rO, rvM] at td
          obtain ⟨b1, b2⟩ := mtkA_b hm ha
          rw [Rr.bind_ok, Rr.bind_bind] at hres
          have m408 := mbc_len y.1 b2
          have mcl := mbc_cell y.1
          have dm : List.drop 408 (mbc y.1) = [] := List.drop_of_length_le (by omega)
          have tm : List.take 408 (mbc y.1) = mbc y.1 := List.take_of_length_le (by omega)
          have lD := flat_len mbc 408 D (fun x hx => mbc_len x (hDl x hx))
          rw [hD] at lD
          have lQ : (qC qs).length = k := by rw [qC_len]; exact hQ
          have y0 : (stc y.2)[0]? = some (.int .i64 y.2.q) := rfl
          (repeat refine PW.seq ?_); refine PW.drawi [H.length + 5, H.length + 10, H.length + 11] [(11, [0]), (77, [0]), (17, [1]), (18, [2])] [(17, 1), (18, 2)] [81] mix (by kernel_rfl) (by simp <;> omega) fun K hK => ?_
          simp (maxSteps := 3000000) (disch := omega) only [go_sem, ↓reduceIte, reduceCtorEq, pappend, plen, apn, h2, h3, p6, t6, l8, tk8]
          refine VCj.read (fun _ _ => co1 _) rfl ?_
          simp (maxSteps := 3000000) (disch := omega) only [go_sem, ↓reduceIte, reduceCtorEq, pappend, plen, apn, aps, l8, tk8]
          refine VCj.wr1 (apn _ _ 5) (fun L hL hG => td L hL ((hG.out _ (by simp)).trans (apn _ _ 4))) (by simp (maxSteps := 3000000) (disch := omega) only [go_sem, ↓reduceIte, reduceCtorEq, pappend, plen]) (.inl rfl) rfl ?_
          simp (maxSteps := 3000000) (disch := omega) only [go_sem, ↓reduceIte, reduceCtorEq, pappend, plen, apn, aps, l8, tk8, hzl, hzc, dz, c8, dk8, m408, mcl, dm]
          refine hK _ _ ?_; clear hK K
          (repeat refine PW.seq ?_); refine PW.rg rfl fun K hK => ?_; simp (maxSteps := 3000000) (disch := omega) only [go_sem, ↓reduceIte, reduceCtorEq, pappend, plen]; refine hK _ _ ?_; clear hK K
          (repeat refine PW.seq ?_); refine PW.cond (t := _) rfl (fun h => ?_) (fun h => ?_)
          · cases h
          refine PW.skip ?_
          (repeat refine PW.seq ?_); refine PW.rg rfl fun K hK => ?_; simp (maxSteps := 3000000) (disch := omega) only [go_sem, ↓reduceIte, reduceCtorEq, pappend, plen, apn, aps, l8, tk8, c8, dk8]; refine hK _ _ ?_; clear hK K
          (repeat refine PW.seq ?_); refine PW.drawi [H.length + 6, H.length + 8, H.length + 9] [(14, [0]), (92, [0]), (97, [0]), (103, [0]), (104, [0]), (93, [1]), (96, [1]), (98, [2]), (102, [2])] [] [] mix (by kernel_rfl) (by simp <;> omega) fun K hK => ?_
          have lA : (D.flatMap mbc ++ mbc y.1).length = (k + 1) * 408 := by rw [List.length_append, lD, m408]; omega
          have lB : (qC qs ++ [PV.int .i64 y.2.q]).length = k + 1 := by rw [List.length_append, lQ]; rfl
          simp (maxSteps := 3000000) (disch := omega) only [go_sem, ↓reduceIte, reduceCtorEq, pappend, plen, apn, aps, lD, lQ, m408, mcl, tm, y0, lA, lB]
          refine hK _ _ ?_; clear hK K
          (repeat refine PW.seq ?_); refine PW.rg rfl fun K hK => ?_; simp (maxSteps := 3000000) (disch := omega) only [go_sem, ↓reduceIte, reduceCtorEq, pappend, plen]; refine hK _ _ ?_; clear hK K
          have eH : H ++ [⟨62, 0, sqc s⟩, ⟨64, 0, pic p⟩, ⟨105, 0, [.int .i64 t, .slice (bs q) q.length f]⟩, ⟨118, 0, [.int .i64 0, .slice [] 0 true, .slice [] 0 true]⟩, rB q V, rR (H.length + 4) V n a1, ⟨118, 0, [.int .i64 (v : Int), .msl (H.length + 8) ((k + 1) * 408) 0 (k + 1) 408 true, .msl (H.length + 9) (k + 1) 0 (k + 1) 1 true]⟩, ⟨29, 0, stc y.2⟩, ⟨49, (k + 1) * 408, D.flatMap mbc ++ mbc y.1⟩, ⟨3, k + 1, qC qs ++ [PV.int .i64 y.2.q]⟩, ⟨49, 1, mbc y.1⟩, ⟨29, 1, stc y.2⟩]
              = ulH H s p t q f V n a1 v (k + 1) y.2 (D ++ [y.1]) (qs ++ [y.2.q]) ++ [⟨49, 1, mbc y.1⟩, ⟨29, 1, stc y.2⟩] := by
            unfold ulH
            rw [qC_snoc, List.flatMap_append]
            simp
          refine PL.view (Vs.trim (F1 := [(2, .bool b), (4, .ptr H.length 0 0), (5, .ptr (H.length + 1) 0 0), (8, .ptr (H.length + 3) 0 0), (11, .ptr (H.length + 5) 0 0), (14, .ptr (H.length + 6) 0 0), (15, .ptr (H.length + 7) 0 0), (16, .int .i64 ((k + 1 : Nat) : Int))]) (hsc_ulH H s p t q f V n a1 v (k + 1) y.2 (D ++ [y.1]) (qs ++ [y.2.q])) (by simp [ulH]) eH (fz _ (k + 1) _ _ (by simp [ulH]) rfl rfl rfl rfl rfl rfl rfl rfl)) (ih r (by omega) (k + 1) (D ++ [y.1]) (qs ++ [y.2.q]) y.2 a1 (by omega) (by simp [hD]) (by simp [hQ]) (fun x hx => ?_) b1 ?_ hr2)
          · rcases List.mem_append.1 hx with hx | hx
            · exact hDl x hx
            · rw [List.mem_singleton] at hx
              rw [hx]; exact b2
          · rw [hr2, ← hres]
            congr 1
            funext z a'
            simp only [Rr.bind, List.append_assoc, List.cons_append, List.nil_append]
      · have h6 : k = w := by have := of_decide_eq_false h; omega
        subst h6
        refine PW.exit ?_
        rw [Nat.sub_self] at hd
        subst hd
        rw [Nat.sub_self, sqL, Rr.bind_ok] at hres
        have lf := rleft_ref (H.length + 5) (H.length + 4) V q n a (ulH H s p t q f V n a v k st D qs) (apn _ _ 5) (apn _ _ 4) ha (by omega)
        have lD := flat_len mbc 408 D (fun x hx => mbc_len x (hDl x hx))
        rw [hD] at lD
        have lQ : (qC qs).length = k := by rw [qC_len]; exact hQ
        unfold ulH at lf
        by_cases han : a = n
        · rw [if_pos han] at hres
          rw [han, Nat.sub_self] at lf
          subst han
          (repeat refine PW.seq ?_); refine PW.rg rfl fun K hK => ?_; simp (maxSteps := 3000000) (disch := omega) only [go_sem, ↓reduceIte, reduceCtorEq, pappend, plen, ulH]
          refine VCx.call (lf) rfl ?_; simp (maxSteps := 3000000) (disch := omega) only [go_sem, ↓reduceIte, reduceCtorEq, pappend, plen]; refine hK _ _ ?_; clear hK K
          (repeat refine PW.seq ?_); refine PW.cond (t := _) rfl (fun h => ?_) (fun h => ?_)
          · cases h
          refine PW.skip ?_
          (repeat refine PW.seq ?_); refine PW.rg rfl fun K hK => ?_; simp (maxSteps := 3000000) (disch := omega) only [go_sem, ↓reduceIte, reduceCtorEq, pappend, plen, apn, aps]; refine hK _ _ ?_; clear hK K
          refine PW.ret ⟨.tup [.agg [.int .i64 (v : Int), .msl (H.length + 8) (k * 408) 0 k 408 true, .msl (H.length + 9) k 0 k 1 true], .int .i64 0], by simp (maxSteps := 3000000) (disch := omega) only [go_sem, ↓reduceIte, reduceCtorEq, pappend, plen, presults, presult, List.mapM_cons, List.mapM_nil, Option.pure_def, Option.bind_eq_bind, Option.bind_some, Array.toList, apn, aps], ?_⟩
          rw [← hres]
          refine Fin.base (Fz.tupC ⟨Fz.aggC ⟨.id (.int _ _), ?_, ?_, trivial⟩, .id (.int _ _), trivial⟩)
          · rw [List.append_nil, hD]
            exact Fz.mslC (e := 49) (xs := D.flatMap mbc) (by omega) (apn _ _ 8) (by rw [lD]) (FzC.refl (mbl_sc D _))
          · dsimp only
            rw [List.append_nil, hQ]
            exact Fz.mslC (e := 3) (xs := qC qs) (by omega) (apn _ _ 9) (by rw [lQ, Nat.mul_one]) (FzC.refl (qC_sc qs _))
        · rw [if_neg han] at hres
          have d0 : decide ((0 : Int) < ((n - a : Nat) : Int)) = true := by simp; omega
          (repeat refine PW.seq ?_); refine PW.rg rfl fun K hK => ?_; simp (maxSteps := 3000000) (disch := omega) only [go_sem, ↓reduceIte, reduceCtorEq, pappend, plen, ulH]
          refine VCx.call (lf) rfl ?_; simp (maxSteps := 3000000) (disch := omega) only [go_sem, ↓reduceIte, reduceCtorEq, pappend, plen, d0]; refine hK _ _ ?_; clear hK K
          (repeat refine PW.seq ?_); refine PW.cond (t := _) rfl (fun h => ?_) (fun h => ?_)
          rotate_left
          · cases h
          (repeat refine PW.seq ?_); refine PW.rg rfl fun K hK => ?_; simp (maxSteps := 3000000) (disch := omega) only [go_sem, ↓reduceIte, reduceCtorEq, pappend, plen, apn, aps]; refine hK _ _ ?_; clear hK K
          refine PW.ret ⟨.tup [ag0, .int .i64 3], by simp (maxSteps := 3000000) (disch := omega) only [go_sem, ↓reduceIte, reduceCtorEq, pappend, plen, presults, presult, List.mapM_cons, List.mapM_nil, Option.pure_def, Option.bind_eq_bind, Option.bind_some, Array.toList, ag0, apn, aps], ?_⟩
          rw [← hres]
          exact Fin.base (.id (Q_sc _ _))

end Go.Proofs.Ytcabpncdgagihaa.Sc

namespace Go.Proofs.Ytcabpncdgagihaa.Sc
set_option linter.all false
set_option linter.unusedVariables false
set_option linter.unusedSimpArgs false
open Pm Ty Go.RowKit

theorem flat_get {α : Type} (enc : α → List PV) (N : Nat) (l : List α) (k r : Nat) (hk : k < l.length) (hl : ∀ x ∈ l, (enc x).length = N) (hr : r < N) : (l.flatMap enc)[k * N + r]? = (enc l[k])[r]? := by
  rw [← flat_at enc N l k hk hl, List.getElem?_take, if_pos hr, List.getElem?_drop]
/-! ### units of a coded picture -/
def uq1 (u : Int × List UInt8) : List PV := [.int .i64 u.1, .slice (bs u.2) u.2.length false]
def uq (us : List (Int × List UInt8)) : List PV := us.flatMap uq1
theorem uq_len (us : List (Int × List UInt8)) : (uq us).length = us.length * 2 := flat_len uq1 2 us fun _ _ => rfl
theorem uq_at (us : List (Int × List UInt8)) (k : Nat) (hk : k < us.length) : List.take 2 (List.drop (k * 2) (uq us)) = uq1 us[k] := flat_at uq1 2 us k hk fun _ _ => rfl
theorem uq_0 (us : List (Int × List UInt8)) (k : Nat) (hk : k < us.length) : (uq us)[k * 2]? = some (.int .i64 us[k].1) := flat_get uq1 2 us k 0 hk (fun _ _ => rfl) (by omega)
theorem uq_1 (us : List (Int × List UInt8)) (k : Nat) (hk : k < us.length) : (uq us)[k * 2 + 1]? = some (.slice (bs us[k].2) us[k].2.length false) := flat_get uq1 2 us k 1 hk (fun _ _ => rfl) (by omega)
theorem uq_sc (n : Nat) (us : List (Int × List UInt8)) : ∀ x ∈ uq us, Scoped n x := fun x hx => by
  obtain ⟨u, _, hx⟩ := List.mem_flatMap.1 hx
  simp only [uq1, List.mem_cons, List.not_mem_nil, or_false] at hx
  rcases hx with rfl | rfl
  · exact .int _ _
  · exact sl_scoped (bs_scoped _ _)
def usr1 (u : List UInt8) : List PV := [.slice (bs u) u.length false]
def usr (U : List (List UInt8)) : PV := .slice (U.flatMap usr1) U.length false
theorem usr_sc (n : Nat) (U : List (List UInt8)) : Scoped n (usr U) := sl_scoped fun x hx => by
  obtain ⟨u, _, hx⟩ := List.mem_flatMap.1 hx
  simp only [usr1, List.mem_cons, List.not_mem_nil, or_false] at hx
  rw [hx]
  exact sl_scoped (bs_scoped _ _)
/-- A coded picture. -/
def cdc (p : Pi) (U : List (List UInt8)) (us : List (Int × List UInt8)) : List PV := pic p ++ [usr U, .slice (uq us) us.length false]
theorem cdc_len (p : Pi) (U : List (List UInt8)) (us : List (Int × List UInt8)) : (cdc p U us).length = 8 := rfl
theorem cdc_cell (p : Pi) (U : List (List UInt8)) (us : List (Int × List UInt8)) : (cdc p U us).all PV.cell = true := rfl
theorem cdc_p (p : Pi) (U : List (List UInt8)) (us : List (Int × List UInt8)) : List.take 6 (cdc p U us) = pic p := rfl
theorem cdc_7 (p : Pi) (U : List (List UInt8)) (us : List (Int × List UInt8)) : (cdc p U us)[7]? = some (.slice (uq us) us.length false) := rfl
theorem cdc_t (p : Pi) (U : List (List UInt8)) (us : List (Int × List UInt8)) : List.take 8 (cdc p U us) = cdc p U us := rfl
theorem cdc_sc (n : Nat) (p : Pi) (U : List (List UInt8)) (us : List (Int × List UInt8)) : ∀ x ∈ cdc p U us, Scoped n x := fun x hx => by
  rcases List.mem_append.1 hx with hx | hx
  · exact pic_sc4 _ _ x hx
  · simp only [List.mem_cons, List.not_mem_nil, or_false] at hx
    rcases hx with rfl | rfl
    · exact usr_sc _ _
    · exact sl_scoped (uq_sc _ _)
/-- The first unit of row k. -/
def fnu : List (Int × List UInt8) → Nat → Option (Int × List UInt8)
  | [], _ => none
  | u :: r, k => if u.1 = 1 + (k : Int) then some u else fnu r k
theorem fnu_mem : ∀ {us : List (Int × List UInt8)} {k : Nat} {u : Int × List UInt8}, fnu us k = some u → u ∈ us ∧ u.1 = 1 + (k : Int)
  | x :: r, k, u, h => by
    unfold fnu at h
    split at h
    · injection h with h
      rw [← h]
      exact ⟨List.mem_cons_self .., by assumption⟩
    · have := fnu_mem h
      exact ⟨List.mem_cons_of_mem _ this.1, this.2⟩
theorem fnu_drop (us : List (Int × List UInt8)) (j k : Nat) (hj : j < us.length) : fnu (us.drop j) k = if us[j].1 = 1 + (k : Int) then some us[j] else fnu (us.drop (j + 1)) k := by
  rw [List.drop_eq_getElem_cons hj]; rfl
def cuV : Option (Int × List UInt8) → PV
  | none => .tup [.agg [.int .i64 0, .slice [] 0 true], .bool false]
  | some u => .tup [.agg [.int .i64 u.1, .slice (bs u.2) u.2.length false], .bool true]

theorem cuV_sc (n : Nat) : ∀ o, Scoped n (cuV o)
  | none => .tup (all_scoped' fun x hx => by
      simp only [List.mem_cons, List.not_mem_nil, or_false] at hx
      rcases hx with rfl | rfl
      · exact .agg (all_scoped' fun x hx => by
          simp only [List.mem_cons, List.not_mem_nil, or_false] at hx
          rcases hx with rfl | rfl
          · exact .int _ _
          · exact sl_scoped (fun x hx => by cases hx))
      · exact .bool _)
  | some u => .tup (all_scoped' fun x hx => by
      simp only [List.mem_cons, List.not_mem_nil, or_false] at hx
      rcases hx with rfl | rfl
      · exact .agg (all_scoped' fun x hx => by
          simp only [List.mem_cons, List.not_mem_nil, or_false] at hx
          rcases hx with rfl | rfl
          · exact .int _ _
          · exact sl_scoped (bs_scoped _ _))
      · exact .bool _)

/-! ### the map -/
theorem pfind_snoc (d : TypeDesc) (k a v : PV) : ∀ (xs : List PV) (i : Nat), pfind d k (xs ++ [.tup [a, v]]) i = match pfind d k xs i with
    | some (some r) => some (some r)
    | some none => (match peqS d k a with | some true => some (some (i + xs.length, v)) | some false => some none | none => none)
    | none => none
  | [], i => by
    simp only [List.nil_append, pfind, List.length_nil, Nat.add_zero]
    cases peqS d k a with
    | none => rfl
    | some t => cases t <;> rfl
  | x :: r, i => by
    rw [List.cons_append]
    have ih := pfind_snoc d k a v r (i + 1)
    match x with
    | .tup [b, u] =>
      simp only [pfind]
      cases peqS d k b with
      | none => rfl
      | some t =>
        cases t with
        | true => rfl
        | false =>
          dsimp only
          rw [ih, show i + 1 + r.length = i + (.tup [b, u] :: r : List PV).length by simp; omega]
    | .tup [] => rfl
    | .tup [_] => rfl
    | .tup (_ :: _ :: _ :: _) => rfl
    | .int _ _ => rfl
    | .bool _ => rfl
    | .str _ => rfl
    | .nilp => rfl
    | .nl _ => rfl
    | .undef => rfl
    | .ptr _ _ _ => rfl
    | .ip _ _ => rfl
    | .slice _ _ _ => rfl
    | .msl _ _ _ _ _ _ => rfl
    | .mp _ _ => rfl
    | .agg _ => rfl
    | .func _ _ _ => rfl
theorem zr_int : zrT Try.prog 3 = some (.int .i64 0) := by kernel_rfl
/-- Type -> row. -/
def rowm : Nat → List PV
  | 0 => []
  | i + 1 => rowm i ++ [.tup [.int .i64 (1 + (i : Int)), .int .i64 (i : Int)]]
theorem rowm_find (t : Int) : ∀ r : Nat, ((1 ≤ t ∧ t < 1 + (r : Int)) → ∃ p, pfind (.int .i64) (.int .i64 t) (rowm r) 0 = some (some (p, .int .i64 (t - 1)))) ∧ (¬(1 ≤ t ∧ t < 1 + (r : Int)) → pfind (.int .i64) (.int .i64 t) (rowm r) 0 = some none)
  | 0 => ⟨fun h => by omega, fun _ => rfl⟩
  | r + 1 => by
    obtain ⟨ih1, ih2⟩ := rowm_find t r
    rw [rowm, pfind_snoc]
    by_cases h : 1 ≤ t ∧ t < 1 + (r : Int)
    · obtain ⟨p, hp⟩ := ih1 h
      rw [hp]
      exact ⟨fun _ => ⟨p, rfl⟩, fun h2 => by omega⟩
    · rw [ih2 h]
      by_cases h2 : t = 1 + (r : Int)
      · have : peqS (.int .i64) (.int .i64 t) (.int .i64 (1 + (r : Int))) = some true := by simp [peqS, h2]
        rw [this]
        refine ⟨fun _ => ⟨0 + (rowm r).length, ?_⟩, fun h3 => by omega⟩
        dsimp only
        rw [show t - 1 = (r : Int) by omega]
      · have : peqS (.int .i64) (.int .i64 t) (.int .i64 (1 + (r : Int))) = some false := by simp [peqS, h2]
        rw [this]
        exact ⟨fun h3 => by omega, fun _ => rfl⟩
def mpB (r : Nat) : Blk := ⟨110, 0, rowm r⟩

set_option maxHeartbeats 2000000 in
theorem rbt_ok (r : Nat) (H : Heap) (hr : r ≤ 1000) : CallOk Try.prog 47 [.int .i64 (r : Int)] H (.mp H.length 0) (H ++ [mpB r]) := by
  refine CallOk.body (F0 := [(0, .int .i64 (r : Int))]) Try.func47 rfl Try.ntmps47 Try.results47 rfl (by kernel_rfl) rfl ?_
  (repeat refine PW.seq ?_); refine PW.rg rfl fun K hK => ?_; simp (maxSteps := 3000000) (disch := omega) only [go_sem, ↓reduceIte, reduceCtorEq, pappend, plen]; refine hK _ _ ?_; clear hK K
  (repeat refine PW.seq ?_); refine PW.rg rfl fun K hK => ?_; simp (maxSteps := 3000000) (disch := omega) only [go_sem, ↓reduceIte, reduceCtorEq, pappend, plen]; refine hK _ _ ?_; clear hK K
  (repeat refine PW.seq ?_); refine PW.rg rfl fun K hK => ?_; simp (maxSteps := 3000000) (disch := omega) only [go_sem, ↓reduceIte, reduceCtorEq, pappend, plen]; refine hK _ _ ?_; clear hK K
  (repeat refine PW.seq ?_); refine PW.block (PW.loop ?_)
  suffices hl1 : ∀ j : Nat, j ≤ r → PL Try.prog _ _ [(3, .mp H.length 0), (6, .int .i64 (r : Int)), (7, .int .i64 (j : Int))] (H ++ [⟨110, 0, rowm j⟩]) _ by
    exact PL.at [3, 6, 7] (hl1 0 (by omega)) rfl rfl
  intro j hj
  induction hd : r - j using Nat.strongRecOn generalizing j with
  | _ d ih =>
    refine PL.round ?_; (repeat refine PW.seq ?_); refine PW.rg rfl fun K hK => ?_; simp (maxSteps := 3000000) (disch := omega) only [go_sem, ↓reduceIte, reduceCtorEq, pappend, plen]; refine hK _ _ ?_; clear hK K
    (repeat refine PW.seq ?_); refine PW.cond (t := _) rfl (fun h => ?_) (fun h => ?_)
    · have hjr : j < r := by have := of_decide_eq_true h; omega
      have hp := (rowm_find (1 + (j : Int)) j).2 (by omega)
      refine PW.skip ?_; (repeat refine PW.seq ?_); refine PW.block ?_
      (repeat refine PW.seq ?_); refine PW.rg rfl fun K hK => ?_; simp (maxSteps := 3000000) (disch := omega) only [go_sem, ↓reduceIte, reduceCtorEq, pappend, plen]; refine hK _ _ ?_; clear hK K
      (repeat refine PW.seq ?_); refine PW.rg rfl fun K hK => ?_; simp (maxSteps := 3000000) (disch := omega) only [go_sem, ↓reduceIte, reduceCtorEq, pappend, plen, hp, pmset, pmapOf, scalT]; refine hK _ _ ?_; clear hK K
      (repeat refine PW.seq ?_); refine PW.rg rfl fun K hK => ?_; simp (maxSteps := 3000000) (disch := omega) only [go_sem, ↓reduceIte, reduceCtorEq, pappend, plen]; refine hK _ _ ?_; clear hK K
      exact PL.at [3, 6, 7] (ih (r - (j + 1)) (by omega) (j + 1) (by omega) rfl) rfl rfl
    · have hjr : j = r := by have := of_decide_eq_false h; omega
      subst hjr
      refine PW.exit ?_
      (repeat refine PW.seq ?_); refine PW.rg rfl fun K hK => ?_; simp (maxSteps := 3000000) (disch := omega) only [go_sem, ↓reduceIte, reduceCtorEq, pappend, plen]; refine hK _ _ ?_; clear hK K
      refine PW.ret ⟨.mp H.length 0, by simp (maxSteps := 3000000) (disch := omega) only [go_sem, ↓reduceIte, reduceCtorEq, pappend, plen, presults, presult, List.mapM_cons, List.mapM_nil, Option.pure_def, Option.bind_eq_bind, Option.bind_some, Array.toList], ?_⟩
      exact Fin.now

set_option maxHeartbeats 4000000 in
theorem count_ok (p : Pi) (U : List (List UInt8)) (us : List (Int × List UInt8)) (i r k : Nat) (H : Heap) (hi : H[i]? = some (mpB r)) (hk : k < r) (hu : us.length ≤ 1000000) :
    CallOk Try.prog 48 [.agg (cdc p U us), .mp i 0, .int .i64 (k : Int)] H (cuV (fnu us k)) H := by
  have h1 := cdc_cell p U us
  have h7 := cdc_7 p U us
  have h8 := cdc_len p U us
  have ul := uq_len us
  have il := (List.getElem?_eq_some_iff.1 hi).1
  unfold mpB at hi
  have gi : ∀ K, (H ++ K)[i]? = some ⟨110, 0, rowm r⟩ := fun K => by rw [List.getElem?_append_left il]; exact hi
  have hsc : HSc H → HSc (H ++ [⟨68, 0, cdc p U us⟩, ⟨105, 0, [.int .i64 0, .slice [] 0 true]⟩]) := hscW (fun b hb x hx => by
    simp only [List.mem_cons, List.not_mem_nil, or_false] at hb
    rcases hb with rfl | rfl
    · exact cdc_sc _ _ _ _ x hx
    · simp only [List.mem_cons, List.not_mem_nil, or_false] at hx
      rcases hx with rfl | rfl
      · exact .int _ _
      · exact sl_scoped (fun x hx => by cases hx))
  have fz : ∀ (j : Nat) (F : Fr) (K : Heap), slot F 1 = .mp i 0 → slot F 2 = .int .i64 (k : Int) → slot F 6 = .ptr (H.length + 1) 0 0 → slot F 13 = .slice (uq us) us.length false → slot F 14 = .int .i64 (us.length : Int) → slot F 15 = .int .i64 (j : Int) → FzF (H ++ [⟨68, 0, cdc p U us⟩, ⟨105, 0, [.int .i64 0, .slice [] 0 true]⟩] : Heap).length K F [(1, .mp i 0), (2, .int .i64 (k : Int)), (6, .ptr (H.length + 1) 0 0), (13, .slice (uq us) us.length false), (14, .int .i64 (us.length : Int)), (15, .int .i64 (j : Int))] := fun j F K q1 q2 q3 q4 q5 q6 => by
    refine ⟨?_, ?_, ?_, ?_, ?_, ?_, trivial⟩
    · rw [q1]; exact .id (.mp (by simp; omega))
    · rw [q2]; exact .id (.int _ _)
    · rw [q3]; exact .id (.ptr (by simp))
    · rw [q4]; exact .id (sl_scoped (uq_sc _ _))
    · rw [q5]; exact .id (.int _ _)
    · rw [q6]; exact .id (.int _ _)
  refine CallOk.body (F0 := [(0, .agg (cdc p U us)), (1, .mp i 0), (2, .int .i64 (k : Int))]) Try.func48 rfl Try.ntmps48 Try.results48 rfl (by kernel_rfl) rfl ?_
  (repeat refine PW.seq ?_); refine PW.rg rfl fun K hK => ?_; simp (maxSteps := 3000000) (disch := omega) only [go_sem, ↓reduceIte, reduceCtorEq, pappend, plen, h1]; refine hK _ _ ?_; clear hK K
  (repeat refine PW.seq ?_); refine PW.rg rfl fun K hK => ?_; simp (maxSteps := 3000000) (disch := omega) only [go_sem, ↓reduceIte, reduceCtorEq, pappend, plen, h7, h8]; refine hK _ _ ?_; clear hK K
  (repeat refine PW.seq ?_); refine PW.block (PW.loop ?_)
  suffices hl1 : ∀ j : Nat, j ≤ us.length → fnu (us.drop j) k = fnu us k → PL Try.prog _ _ [(1, .mp i 0), (2, .int .i64 (k : Int)), (6, .ptr (H.length + 1) 0 0), (13, .slice (uq us) us.length false), (14, .int .i64 (us.length : Int)), (15, .int .i64 (j : Int))] (H ++ [⟨68, 0, cdc p U us⟩, ⟨105, 0, [.int .i64 0, .slice [] 0 true]⟩]) _ by
    exact PL.at [1, 2, 6, 13, 14, 15] (hl1 0 (by omega) rfl) rfl rfl
  intro j hj hf
  induction hd : us.length - j using Nat.strongRecOn generalizing j with
  | _ d ih =>
    refine PL.round ?_; (repeat refine PW.seq ?_); refine PW.rg rfl fun K hK => ?_; simp (maxSteps := 3000000) (disch := omega) only [go_sem, ↓reduceIte, reduceCtorEq, pappend, plen]; refine hK _ _ ?_; clear hK K
    (repeat refine PW.seq ?_); refine PW.cond (t := _) rfl (fun h => ?_) (fun h => ?_)
    · have hjr : j < us.length := by have := of_decide_eq_true h; omega
      have ua := uq_at us j hjr
      rw [fnu_drop us j k hjr] at hf
      generalize us[j] = u at *
      obtain ⟨t, q⟩ := u
      simp only [uq1] at ua
      dsimp only at hf
      refine PW.skip ?_; (repeat refine PW.seq ?_); refine PW.block ?_
      (repeat refine PW.seq ?_); refine PW.rg rfl fun K hK => ?_; simp (maxSteps := 3000000) (disch := omega) only [go_sem, ↓reduceIte, reduceCtorEq, pappend, plen, ua, ul]; refine hK _ _ ?_; clear hK K
      obtain ⟨m1, m2⟩ := rowm_find t r
      have done : ∀ F, slot F 6 = .ptr (H.length + 1) 0 0 → True := fun _ _ => trivial
      by_cases hin : 1 ≤ t ∧ t < 1 + (r : Int)
      · obtain ⟨pp, hp⟩ := m1 hin
        (repeat refine PW.seq ?_); refine PW.rg rfl fun K hK => ?_; simp (maxSteps := 3000000) (disch := omega) only [go_sem, ↓reduceIte, reduceCtorEq, pappend, plen, gi, hp, plook, pmapOf, scalT, zr_int]; refine hK _ _ ?_; clear hK K
        by_cases htk : t = 1 + (k : Int)
        · have d1 : (t - 1 == (k : Int)) = true := by rw [beq_iff_eq]; omega
          rw [if_pos htk] at hf
          (repeat refine PW.seq ?_); refine PW.rg rfl fun K hK => ?_; simp (maxSteps := 3000000) (disch := omega) only [go_sem, ↓reduceIte, reduceCtorEq, pappend, plen, d1]; refine hK _ _ ?_; clear hK K
          (repeat refine PW.seq ?_); refine PW.cond (t := _) rfl (fun h => ?_) (fun h => ?_)
          rotate_left
          · cases h
          (repeat refine PW.seq ?_); refine PW.rg rfl fun K hK => ?_; simp (maxSteps := 3000000) (disch := omega) only [go_sem, ↓reduceIte, reduceCtorEq, pappend, plen]; refine hK _ _ ?_; clear hK K
          refine PW.ret ⟨cuV (some (t, q)), by simp (maxSteps := 3000000) (disch := omega) only [go_sem, ↓reduceIte, reduceCtorEq, pappend, plen, presults, presult, List.mapM_cons, List.mapM_nil, Option.pure_def, Option.bind_eq_bind, Option.bind_some, Array.toList, cuV], ?_⟩
          rw [← hf]
          exact Fin.base (.id (cuV_sc _ _))
        · have d1 : (t - 1 == (k : Int)) = false := by rw [beq_eq_false_iff_ne]; omega
          rw [if_neg htk] at hf
          (repeat refine PW.seq ?_); refine PW.rg rfl fun K hK => ?_; simp (maxSteps := 3000000) (disch := omega) only [go_sem, ↓reduceIte, reduceCtorEq, pappend, plen, d1]; refine hK _ _ ?_; clear hK K
          (repeat refine PW.seq ?_); refine PW.cond (t := _) rfl (fun h => ?_) (fun h => ?_)
          · cases h
          refine PW.skip ?_
          (repeat refine PW.seq ?_); refine PW.rg rfl fun K hK => ?_; simp (maxSteps := 3000000) (disch := omega) only [go_sem, ↓reduceIte, reduceCtorEq, pappend, plen]; refine hK _ _ ?_; clear hK K
          exact PL.view (Vs.trim (F1 := [(1, .mp i 0), (2, .int .i64 (k : Int)), (6, .ptr (H.length + 1) 0 0), (13, .slice (uq us) us.length false), (14, .int .i64 (us.length : Int)), (15, .int .i64 ((j + 1 : Nat) : Int))]) (H1 := H ++ [⟨68, 0, cdc p U us⟩, ⟨105, 0, [.int .i64 0, .slice [] 0 true]⟩]) hsc (by simp) (List.append_assoc _ [_, _] [_]).symm (fz (j + 1) _ _ rfl rfl rfl rfl rfl rfl)) (ih (us.length - (j + 1)) (by omega) (j + 1) (by omega) hf rfl)
      · have hp := m2 hin
        rw [if_neg (by omega)] at hf
        (repeat refine PW.seq ?_); refine PW.rg rfl fun K hK => ?_; simp (maxSteps := 3000000) (disch := omega) only [go_sem, ↓reduceIte, reduceCtorEq, pappend, plen, gi, hp, plook, pmapOf, scalT, zr_int]; refine hK _ _ ?_; clear hK K
        (repeat refine PW.seq ?_); refine PW.rg rfl fun K hK => ?_; simp (maxSteps := 3000000) (disch := omega) only [go_sem, ↓reduceIte, reduceCtorEq, pappend, plen]; refine hK _ _ ?_; clear hK K
        (repeat refine PW.seq ?_); refine PW.cond (t := _) rfl (fun h => ?_) (fun h => ?_)
        · cases h
        refine PW.skip ?_
        (repeat refine PW.seq ?_); refine PW.rg rfl fun K hK => ?_; simp (maxSteps := 3000000) (disch := omega) only [go_sem, ↓reduceIte, reduceCtorEq, pappend, plen]; refine hK _ _ ?_; clear hK K
        exact PL.view (Vs.trim (F1 := [(1, .mp i 0), (2, .int .i64 (k : Int)), (6, .ptr (H.length + 1) 0 0), (13, .slice (uq us) us.length false), (14, .int .i64 (us.length : Int)), (15, .int .i64 ((j + 1 : Nat) : Int))]) (H1 := H ++ [⟨68, 0, cdc p U us⟩, ⟨105, 0, [.int .i64 0, .slice [] 0 true]⟩]) hsc (by simp) (List.append_assoc _ [_, _] [_]).symm (fz (j + 1) _ _ rfl rfl rfl rfl rfl rfl)) (ih (us.length - (j + 1)) (by omega) (j + 1) (by omega) hf rfl)
    · have hjr : j = us.length := by have := of_decide_eq_false h; omega
      subst hjr
      rw [List.drop_length] at hf
      refine PW.exit ?_
      (repeat refine PW.seq ?_); refine PW.rg rfl fun K hK => ?_; simp (maxSteps := 3000000) (disch := omega) only [go_sem, ↓reduceIte, reduceCtorEq, pappend, plen]; refine hK _ _ ?_; clear hK K
      refine PW.ret ⟨cuV none, by simp (maxSteps := 3000000) (disch := omega) only [go_sem, ↓reduceIte, reduceCtorEq, pappend, plen, presults, presult, List.mapM_cons, List.mapM_nil, Option.pure_def, Option.bind_eq_bind, Option.bind_some, Array.toList, cuV], ?_⟩
      rw [← hf]
      exact Fin.base (.id (cuV_sc _ _))

/-! ### picture.Quant -/
def mx2 (a b : Int) : Int := if b > a then b else a
theorem pmax2 (k : IntKind) (a b : Int) : pfold pmax (.int k a) [.int k b] = some (.int k (mx2 a b)) := rfl
def mxs : Int → Int → List Mb → Int
  | acc, _, [] => acc
  | acc, q, m :: r => mxs (mx2 acc (q + m.dl)) (q + m.dl) r
def rowP (s : Sq) (p : Pi) (b : Bool) (us : List (Int × List UInt8)) (acc : Int) (k : Nat) : Int :=
  match fnu us k with
  | none => acc
  | some u => match slT s p b u.1 u.2 with
    | .ok x _ => mxs (mx2 acc (x.1 : Int)) (x.1 : Int) x.2
    | .er _ _ => acc
def qP (s : Sq) (p : Pi) (b : Bool) (us : List (Int × List UInt8)) (k : Nat) : Int := (List.range k).foldl (rowP s p b us) 0
theorem qP_succ (s : Sq) (p : Pi) (b : Bool) (us : List (Int × List UInt8)) (k : Nat) : qP s p b us (k + 1) = rowP s p b us (qP s p b us k) k := by
  unfold qP
  rw [List.range_succ, List.foldl_append]; rfl
theorem slT_b {s : Sq} {p : Pi} {b : Bool} {t : Int} {q : List UInt8} {v : Nat} {l : List Mb} {a1 : Nat} (h : slT s p b t q = .ok (v, l) a1) : l.length ≤ 4 ∧ (∀ x ∈ l, x.lv.length = 384) ∧ ∀ x ∈ sums (v : Int) l, 1 ≤ x ∧ x ≤ 31 := by
  unfold slT at h
  split at h
  · rename_i hc
    rw [Bool.and_eq_true] at hc
    have hw : wmb s ≤ 4 := by
      have hv : pvalid s p = true := by
        have := hc.1
        unfold fitB at this
        rw [Bool.and_eq_true] at this
        exact this.1
      have := pvalid_h hv
      have e := Int.tdiv_eq_ediv_of_nonneg (a := s.w) (b := 16) (by omega)
      unfold wmb
      omega
    split at h
    · cases h
    rename_i hb
    split at h
    · cases h
    rename_i h5
    split at h
    · cases h
    obtain ⟨z, a2, h1, h⟩ := Rr.bind_okE h
    split at h
    · injection h with h _
      injection h with h3 h4
      subst h3 h4
      obtain ⟨e1, e2⟩ := slL_sums _ _ _ h1
      exact ⟨by omega, slL_lv _ _ _ h1 (by omega), e2⟩
    · cases h
  · cases h
def qPF (s : Sq) (p : Pi) (b : Bool) (us : List (Int × List UInt8)) : Int := if fitB s p b then qP s p b us (prows s p).toNat else 0

def qpH (H : Heap) (s : Sq) (p : Pi) (U : List (List UInt8)) (us : List (Int × List UInt8)) (r : Nat) : Heap := H ++ [⟨62, 0, sqc s⟩, ⟨68, 0, cdc p U us⟩, mpB r]
theorem rowm_sc (n : Nat) : ∀ r, ∀ x ∈ rowm r, Scoped n x
  | 0 => fun x hx => by cases hx
  | r + 1 => fun x hx => by
    rcases List.mem_append.1 hx with hx | hx
    · exact rowm_sc n r x hx
    · rw [List.mem_singleton] at hx
      rw [hx]
      exact .tup (all_scoped' fun x hx => by
        simp only [List.mem_cons, List.not_mem_nil, or_false] at hx
        rcases hx with rfl | rfl
        · exact .int _ _
        · exact .int _ _)
theorem hsc_qpH (H : Heap) (s : Sq) (p : Pi) (U : List (List UInt8)) (us : List (Int × List UInt8)) (r : Nat) (h : HSc H) : HSc (qpH H s p U us r) := hscW (fun b hb x hx => by
  simp only [List.mem_cons, List.not_mem_nil, or_false] at hb
  rcases hb with rfl | rfl | rfl
  · exact sqc_scoped _ _ x hx
  · exact cdc_sc _ _ _ _ x hx
  · exact rowm_sc _ _ x hx) h

set_option maxHeartbeats 8000000 in
set_option maxRecDepth 100000 in
theorem quant_ok (s : Sq) (p : Pi) (U : List (List UInt8)) (us : List (Int × List UInt8)) (b : Bool) (H : Heap) (hs : SqOk s) (hu : us.length ≤ 1000000) (hul : ∀ u ∈ us, i64r u.1 ∧ u.2.length ≤ 100000000) :
    CallOk Try.prog 18 [.agg (sqc s), .agg (cdc p U us), .bool b] H (.int .i64 (qPF s p b us)) H := by
  have fo := fun K => fits_ok s p b K hs
  have ro := fun K => prows_ok s p K hs
  have h1 := sqc_cell s
  have h2 := sqc_len s hs
  have h3 := sqc_tk s hs
  have c1 := cdc_cell p U us
  have c2 := cdc_len p U us
  have c3 := cdc_p p U us
  have c4 := cdc_t p U us
  have hpr := prows_b4 (s := s) (p := p)
  unfold qPF
  refine CallOk.body (F0 := [(0, .agg (sqc s)), (1, .agg (cdc p U us)), (2, .bool b)]) Try.func18 rfl Try.ntmps18 Try.results18 rfl (by kernel_rfl) rfl ?_
  (repeat refine PW.seq ?_); refine PW.rg rfl fun K hK => ?_; simp (maxSteps := 3000000) (disch := omega) only [go_sem, ↓reduceIte, reduceCtorEq, pappend, plen, h1, c1]; refine hK _ _ ?_; clear hK K
  (repeat refine PW.seq ?_); refine PW.rg rfl fun K hK => ?_; simp (maxSteps := 3000000) (disch := omega) only [go_sem, ↓reduceIte, reduceCtorEq, pappend, plen, h2, h3, c2, c3]
  refine VCx.call (fo _) rfl ?_; simp (maxSteps := 3000000) (disch := omega) only [go_sem, ↓reduceIte, reduceCtorEq, pappend, plen]; refine hK _ _ ?_; clear hK K
  cases hf : fitB s p b with
  | false =>
    (repeat refine PW.seq ?_); refine PW.cond (t := _) rfl (fun h => ?_) (fun h => ?_)
    rotate_left
    · cases h
    (repeat refine PW.seq ?_); refine PW.rg rfl fun K hK => ?_; simp (maxSteps := 3000000) (disch := omega) only [go_sem, ↓reduceIte, reduceCtorEq, pappend, plen]; refine hK _ _ ?_; clear hK K
    (refine PW.ret ⟨_, rfl, ?_⟩; first | refine .inl ⟨?_, rfl⟩ | refine Fin.base (.id' ?_ (.bool _)) | refine Fin.base (.id' ?_ (.int _ _)))
    rfl
  | true =>
    (repeat refine PW.seq ?_); refine PW.cond (t := _) rfl (fun h => ?_) (fun h => ?_)
    · cases h
    refine PW.skip ?_
    obtain ⟨r, hr⟩ : ∃ r : Nat, prows s p = (r : Int) := ⟨(prows s p).toNat, by omega⟩
    rw [hr] at ro hpr ⊢
    rw [Int.toNat_natCast, if_pos rfl]
    have rb := fun K => rbt_ok r K (by omega)
    (repeat refine PW.seq ?_); refine PW.rg rfl fun K hK => ?_; simp (maxSteps := 3000000) (disch := omega) only [go_sem, ↓reduceIte, reduceCtorEq, pappend, plen, h2, h3, c2, c3]
    refine VCx.call (ro _) rfl ?_; simp (maxSteps := 3000000) (disch := omega) only [go_sem, ↓reduceIte, reduceCtorEq, pappend, plen]; refine hK _ _ ?_; clear hK K
    (repeat refine PW.seq ?_); refine PW.rg rfl fun K hK => ?_; simp (maxSteps := 3000000) (disch := omega) only [go_sem, ↓reduceIte, reduceCtorEq, pappend, plen]; refine VCx.call (rb _) rfl ?_; simp (maxSteps := 3000000) (disch := omega) only [go_sem, ↓reduceIte, reduceCtorEq, pappend, plen]; refine hK _ _ ?_; clear hK K
    (repeat refine PW.seq ?_); refine PW.rg rfl fun K hK => ?_; simp (maxSteps := 3000000) (disch := omega) only [go_sem, ↓reduceIte, reduceCtorEq, pappend, plen]; refine hK _ _ ?_; clear hK K
    (repeat refine PW.seq ?_); refine PW.rg rfl fun K hK => ?_; simp (maxSteps := 3000000) (disch := omega) only [go_sem, ↓reduceIte, reduceCtorEq, pappend, plen]; refine hK _ _ ?_; clear hK K
    (repeat refine PW.seq ?_); refine PW.block (PW.loop ?_)
    have fz : ∀ (z : Int) (k : Nat) (F : Fr) (K : Heap), slot F 2 = .bool b → slot F 3 = .ptr H.length 0 0 → slot F 4 = .ptr (H.length + 1) 0 0 → slot F 8 = .mp (H.length + 2) 0 → slot F 9 = .int .i64 z → slot F 29 = .int .i64 (r : Int) → slot F 30 = .int .i64 (k : Int) → FzF (qpH H s p U us r).length K F [(2, .bool b), (3, .ptr H.length 0 0), (4, .ptr (H.length + 1) 0 0), (8, .mp (H.length + 2) 0), (9, .int .i64 z), (29, .int .i64 (r : Int)), (30, .int .i64 (k : Int))] := fun z k F K q1 q2 q3 q4 q5 q6 q7 => by
      refine ⟨?_, ?_, ?_, ?_, ?_, ?_, ?_, trivial⟩
      · rw [q1]; exact .id (.bool _)
      · rw [q2]; exact .id (.ptr (by simp [qpH]))
      · rw [q3]; exact .id (.ptr (by simp [qpH]))
      · rw [q4]; exact .id (.mp (by simp [qpH]))
      · rw [q5]; exact .id (.int _ _)
      · rw [q6]; exact .id (.int _ _)
      · rw [q7]; exact .id (.int _ _)
    suffices hl1 : ∀ k : Nat, k ≤ r → PL Try.prog _ _ [(2, .bool b), (3, .ptr H.length 0 0), (4, .ptr (H.length + 1) 0 0), (8, .mp (H.length + 2) 0), (9, .int .i64 (qP s p b us k)), (29, .int .i64 (r : Int)), (30, .int .i64 (k : Int))] (qpH H s p U us r) _ by
      exact PL.at [2, 3, 4, 8, 9, 29, 30] (hl1 0 (by omega)) rfl rfl
    clear rb ro fo
    intro k hk
    induction hd : r - k using Nat.strongRecOn generalizing k with
    | _ d ih =>
      refine PL.round ?_; (repeat refine PW.seq ?_); refine PW.rg rfl fun K hK => ?_; simp (maxSteps := 3000000) (disch := omega) only [go_sem, ↓reduceIte, reduceCtorEq, pappend, plen]; refine hK _ _ ?_; clear hK K
      (repeat refine PW.seq ?_); refine PW.cond (t := _) rfl (fun h => ?_) (fun h => ?_)
      · have hkr : k < r := by have := of_decide_eq_true h; omega
        have cu := count_ok p U us (H.length + 2) r k (qpH H s p U us r) (apn _ _ 2) hkr hu
        have hqs := qP_succ s p b us k
        unfold rowP at hqs
        unfold qpH at cu
        refine PW.skip ?_; (repeat refine PW.seq ?_); refine PW.block ?_
        (repeat refine PW.seq ?_); refine PW.rg rfl fun K hK => ?_; simp (maxSteps := 3000000) (disch := omega) only [go_sem, ↓reduceIte, reduceCtorEq, pappend, plen]; refine hK _ _ ?_; clear hK K
        (repeat refine PW.seq ?_); refine PW.rg rfl fun K hK => ?_; simp (maxSteps := 3000000) (disch := omega) only [go_sem, ↓reduceIte, reduceCtorEq, pappend, plen, qpH, c2, c4]
        refine VCx.call (cu) rfl ?_
        cases hfn : fnu us k with
        | none =>
          rw [hfn] at hqs
          dsimp only at hqs
          simp (maxSteps := 3000000) (disch := omega) only [go_sem, ↓reduceIte, reduceCtorEq, pappend, plen, cuV]; refine hK _ _ ?_; clear hK K
          (repeat refine PW.seq ?_); refine PW.rg rfl fun K hK => ?_; simp (maxSteps := 3000000) (disch := omega) only [go_sem, ↓reduceIte, reduceCtorEq, pappend, plen]; refine hK _ _ ?_; clear hK K
          (repeat refine PW.seq ?_); refine PW.cond (t := _) rfl (fun h => ?_) (fun h => ?_)
          rotate_left
          · cases h
          refine PW.exit ?_
          (repeat refine PW.seq ?_); refine PW.rg rfl fun K hK => ?_; simp (maxSteps := 3000000) (disch := omega) only [go_sem, ↓reduceIte, reduceCtorEq, pappend, plen]; refine hK _ _ ?_; clear hK K
          rw [← hqs]
          exact PL.view (Vs.trim (F1 := [(2, .bool b), (3, .ptr H.length 0 0), (4, .ptr (H.length + 1) 0 0), (8, .mp (H.length + 2) 0), (9, .int .i64 (qP s p b us (k + 1))), (29, .int .i64 (r : Int)), (30, .int .i64 ((k + 1 : Nat) : Int))]) (H1 := qpH H s p U us r) (hsc_qpH H s p U us r) (by simp [qpH]) (List.append_assoc _ [_, _, _] [_]).symm (fz _ (k + 1) _ _ rfl rfl rfl rfl rfl rfl rfl)) (ih (r - (k + 1)) (by omega) (k + 1) (by omega) rfl)
        | some u =>
          obtain ⟨t, q⟩ := u
          obtain ⟨hmem, _⟩ := fnu_mem hfn
          have hq := hul _ hmem
          have so := fun K => slice_ok s p b t q false K hs hq.1 hq.2
          rw [hfn] at hqs
          dsimp only at hqs
          simp (maxSteps := 3000000) (disch := omega) only [go_sem, ↓reduceIte, reduceCtorEq, pappend, plen, cuV]; refine hK _ _ ?_; clear hK K
          (repeat refine PW.seq ?_); refine PW.rg rfl fun K hK => ?_; simp (maxSteps := 3000000) (disch := omega) only [go_sem, ↓reduceIte, reduceCtorEq, pappend, plen]; refine hK _ _ ?_; clear hK K
          (repeat refine PW.seq ?_); refine PW.cond (t := _) rfl (fun h => ?_) (fun h => ?_)
          · cases h
          refine PW.skip ?_
          (repeat refine PW.seq ?_); refine PW.rg rfl fun K hK => ?_; simp (maxSteps := 3000000) (disch := omega) only [go_sem, ↓reduceIte, reduceCtorEq, pappend, plen, h2, h3, c2, c3]
          refine VCx.call (so _) rfl ?_
          cases hsl : slT s p b t q with
          | er e a1 =>
            rw [hsl] at hqs
            dsimp only at hqs
            have d0 : ((e : Int) + 1 != 0) = true := by simp; omega
            simp (maxSteps := 3000000) (disch := omega) only [go_sem, ↓reduceIte, reduceCtorEq, pappend, plen, rvT, ecd]; refine hK _ _ ?_; clear hK K
            (repeat refine PW.seq ?_); refine PW.rg rfl fun K hK => ?_; simp (maxSteps := 3000000) (disch := omega) only [go_sem, ↓reduceIte, reduceCtorEq, pappend, plen, d0]; refine hK _ _ ?_; clear hK K
            (repeat refine PW.seq ?_); refine PW.cond (t := _) rfl (fun h => ?_) (fun h => ?_)
            rotate_left
            · cases h
            refine PW.exit ?_
            (repeat refine PW.seq ?_); refine PW.rg rfl fun K hK => ?_; simp (maxSteps := 3000000) (disch := omega) only [go_sem, ↓reduceIte, reduceCtorEq, pappend, plen]; refine hK _ _ ?_; clear hK K
            rw [← hqs]
            exact PL.view (Vs.trim (F1 := [(2, .bool b), (3, .ptr H.length 0 0), (4, .ptr (H.length + 1) 0 0), (8, .mp (H.length + 2) 0), (9, .int .i64 (qP s p b us (k + 1))), (29, .int .i64 (r : Int)), (30, .int .i64 ((k + 1 : Nat) : Int))]) (H1 := qpH H s p U us r) (hsc_qpH H s p U us r) (by simp [qpH]) (List.append_assoc _ [_, _, _] [_]).symm (fz _ (k + 1) _ _ rfl rfl rfl rfl rfl rfl rfl)) (ih (r - (k + 1)) (by omega) (k + 1) (by omega) rfl)
          | ok x a1 =>
            obtain ⟨v, l⟩ := x
            rw [hsl] at hqs
            dsimp only at hqs
            have hsb := slT_b hsl
            have lm := flat_len mbc 408 l (fun x hx => mbc_len x (hsb.2.1 x hx))
            have hll := hsb.1
            simp (maxSteps := 3000000) (disch := omega) only [go_sem, ↓reduceIte, reduceCtorEq, pappend, plen, rvT]; refine hK _ _ ?_; clear hK K
            (repeat refine PW.seq ?_); refine PW.rg rfl fun K hK => ?_; simp (maxSteps := 3000000) (disch := omega) only [go_sem, ↓reduceIte, reduceCtorEq, pappend, plen]; refine hK _ _ ?_; clear hK K
            (repeat refine PW.seq ?_); refine PW.cond (t := _) rfl (fun h => ?_) (fun h => ?_)
            · cases h
            refine PW.skip ?_
            (repeat refine PW.seq ?_); refine PW.rg rfl fun K hK => ?_; simp (maxSteps := 3000000) (disch := omega) only [go_sem, ↓reduceIte, reduceCtorEq, pappend, plen, pmax2]; refine hK _ _ ?_; clear hK K
            (repeat refine PW.seq ?_); refine PW.rg rfl fun K hK => ?_; simp (maxSteps := 3000000) (disch := omega) only [go_sem, ↓reduceIte, reduceCtorEq, pappend, plen]; refine hK _ _ ?_; clear hK K
            (repeat refine PW.seq ?_); refine PW.block (PW.loop ?_)
            suffices hl2 : ∀ (j : Nat) (acc q1 : Int), j ≤ l.length → (∀ x ∈ sums q1 (l.drop j), 1 ≤ x ∧ x ≤ 31) → mxs acc q1 (l.drop j) = qP s p b us (k + 1) → PL Try.prog _ _ [(2, .bool b), (3, .ptr H.length 0 0), (4, .ptr (H.length + 1) 0 0), (8, .mp (H.length + 2) 0), (9, .int .i64 acc), (13, .int .i64 q1), (14, .slice (l.flatMap mbc) l.length false), (29, .int .i64 (r : Int)), (30, .int .i64 (k : Int)), (58, .int .i64 (l.length : Int)), (59, .int .i64 (j : Int))] (qpH H s p U us r ++ [⟨105, 0, [.int .i64 t, .slice (bs q) q.length false]⟩]) _ by
              exact PL.at [2, 3, 4, 8, 9, 13, 14, 29, 30, 58, 59] (hl2 0 (mx2 (qP s p b us k) v) v (by omega) hsb.2.2 hqs.symm) rfl (by simp [qpH])
            intro j acc q1 hj hbd hmx
            induction hd2 : l.length - j using Nat.strongRecOn generalizing j acc q1 with
            | _ d2 ih2 =>
              refine PL.round ?_; (repeat refine PW.seq ?_); refine PW.rg rfl fun K hK => ?_; simp (maxSteps := 3000000) (disch := omega) only [go_sem, ↓reduceIte, reduceCtorEq, pappend, plen]; refine hK _ _ ?_; clear hK K
              (repeat refine PW.seq ?_); refine PW.cond (t := _) rfl (fun h => ?_) (fun h => ?_)
              · have hjl : j < l.length := by have := of_decide_eq_true h; omega
                have hg := flat_get mbc 408 l j 17 hjl (fun x hx => mbc_len x (hsb.2.1 x hx)) (by omega)
                rw [show (mbc l[j])[17]? = some (.int .i64 l[j].dl) from rfl] at hg
                rw [List.drop_eq_getElem_cons hjl] at hbd hmx
                simp only [sums, mxs] at hbd hmx
                generalize l[j].dl = dl at *
                have hb1 := hbd (q1 + dl) (List.mem_cons_self ..)
                refine PW.skip ?_; (repeat refine PW.seq ?_); refine PW.block ?_
                (repeat refine PW.seq ?_); refine PW.rg rfl fun K hK => ?_; simp (maxSteps := 3000000) (disch := omega) only [go_sem, ↓reduceIte, reduceCtorEq, pappend, plen]; refine hK _ _ ?_; clear hK K
                (repeat refine PW.seq ?_); refine PW.rg rfl fun K hK => ?_; simp (maxSteps := 3000000) (disch := omega) only [go_sem, ↓reduceIte, reduceCtorEq, pappend, plen, hg, lm]; refine hK _ _ ?_; clear hK K
                (repeat refine PW.seq ?_); refine PW.rg rfl fun K hK => ?_; simp (maxSteps := 3000000) (disch := omega) only [go_sem, ↓reduceIte, reduceCtorEq, pappend, plen, pmax2]; refine hK _ _ ?_; clear hK K
                (repeat refine PW.seq ?_); refine PW.rg rfl fun K hK => ?_; simp (maxSteps := 3000000) (disch := omega) only [go_sem, ↓reduceIte, reduceCtorEq, pappend, plen]; refine hK _ _ ?_; clear hK K
                exact PL.at [2, 3, 4, 8, 9, 13, 14, 29, 30, 58, 59] (ih2 (l.length - (j + 1)) (by omega) (j + 1) _ _ (by omega) (fun x hx => hbd x (List.mem_cons_of_mem _ hx)) hmx rfl) rfl rfl
              · have hjl : j = l.length := by have := of_decide_eq_false h; omega
                subst hjl
                rw [List.drop_length] at hmx
                simp only [mxs] at hmx
                refine PW.exit ?_
                (repeat refine PW.seq ?_); refine PW.rg rfl fun K hK => ?_; simp (maxSteps := 3000000) (disch := omega) only [go_sem, ↓reduceIte, reduceCtorEq, pappend, plen]; refine hK _ _ ?_; clear hK K
                rw [hmx]
                exact PL.view (Vs.trim (F1 := [(2, .bool b), (3, .ptr H.length 0 0), (4, .ptr (H.length + 1) 0 0), (8, .mp (H.length + 2) 0), (9, .int .i64 (qP s p b us (k + 1))), (29, .int .i64 (r : Int)), (30, .int .i64 ((k + 1 : Nat) : Int))]) (H1 := qpH H s p U us r) (hsc_qpH H s p U us r) (by simp [qpH]) rfl (fz _ (k + 1) _ _ rfl rfl rfl rfl rfl rfl rfl)) (ih (r - (k + 1)) (by omega) (k + 1) (by omega) rfl)
      · have hkr : k = r := by have := of_decide_eq_false h; omega
        subst hkr
        refine PW.exit ?_
        (repeat refine PW.seq ?_); refine PW.rg rfl fun K hK => ?_; simp (maxSteps := 3000000) (disch := omega) only [go_sem, ↓reduceIte, reduceCtorEq, pappend, plen]; refine hK _ _ ?_; clear hK K
        (refine PW.ret ⟨_, rfl, ?_⟩; first | refine .inl ⟨?_, rfl⟩ | refine Fin.base (.id' ?_ (.bool _)) | refine Fin.base (.id' ?_ (.int _ _)))
        rfl

end Go.Proofs.Ytcabpncdgagihaa.Sc

namespace Go.Proofs.Ytcabpncdgagihaa.Sc
set_option linter.all false
set_option linter.unusedVariables false
set_option linter.unusedSimpArgs false
open Pm Ty Go.RowKit

/-- What counts of row k. -/
def cnt (s : Sq) (p : Pi) (b : Bool) (us : List (Int × List UInt8)) (k : Nat) : Option (Nat × List Mb × List Int) :=
  match fnu us k with
  | none => none
  | some u => match sqT s p b u.1 u.2 with
    | .ok x _ => some x
    | .er _ _ => none
def cnV : Option (Nat × List Mb × List Int) → PV
  | none => .tup [ag0, .bool false]
  | some x => .tup [agS (x.1 : Int) x.2.1 x.2.2, .bool true]
theorem ag0_sc (n : Nat) : Scoped n ag0 := .agg (all_scoped' fun x hx => by
  simp only [List.mem_cons, List.not_mem_nil, or_false] at hx
  rcases hx with rfl | rfl | rfl
  · exact .int _ _
  · exact sl_scoped (fun x hx => by cases hx)
  · exact sl_scoped (fun x hx => by cases hx))
theorem agS_sc (n : Nat) (v : Int) (D : List Mb) (qs : List Int) : Scoped n (agS v D qs) := .agg (all_scoped' fun x hx => by
  simp only [List.mem_cons, List.not_mem_nil, or_false] at hx
  rcases hx with rfl | rfl | rfl
  · exact .int _ _
  · exact sl_scoped (mbl_sc _ _)
  · exact sl_scoped (qC_sc _ _))
theorem cnV_sc (n : Nat) : ∀ o, Scoped n (cnV o)
  | none => .tup (all_scoped' fun x hx => by
      simp only [List.mem_cons, List.not_mem_nil, or_false] at hx
      rcases hx with rfl | rfl
      · exact ag0_sc n
      · exact .bool _)
  | some u => .tup (all_scoped' fun x hx => by
      simp only [List.mem_cons, List.not_mem_nil, or_false] at hx
      rcases hx with rfl | rfl
      · exact agS_sc _ _ _ _
      · exact .bool _)
def z3 : List PV := [.int .i64 0, .slice [] 0 true, .slice [] 0 true]

set_option maxHeartbeats 8000000 in
set_option maxRecDepth 100000 in
theorem counts_ref (s : Sq) (p : Pi) (U : List (List UInt8)) (us : List (Int × List UInt8)) (b : Bool) (k : Nat) (H : Heap) (hs : SqOk s) (hk : k ≤ 1000) (hu : us.length ≤ 1000000) (hul : ∀ u ∈ us, i64r u.1 ∧ u.2.length ≤ 100000000) :
    CallOk Try.prog 52 [.agg (sqc s), .agg (cdc p U us), .bool b, .int .i64 (k : Int)] H (cnV (cnt s p b us k)) H := by
  have h1 := sqc_cell s
  have h2 := sqc_len s hs
  have h3 := sqc_tk s hs
  have c1 := cdc_cell p U us
  have c2 := cdc_len p U us
  have c3 := cdc_p p U us
  have c4 := cdc_t p U us
  have c7 := cdc_7 p U us
  have ul := uq_len us
  unfold cnt
  refine CallOk.body (F0 := [(0, .agg (sqc s)), (1, .agg (cdc p U us)), (2, .bool b), (3, .int .i64 (k : Int))]) Try.func52 rfl Try.ntmps52 Try.results52 rfl (by kernel_rfl) rfl ?_
  (repeat refine PW.seq ?_); refine PW.rg rfl fun K hK => ?_; simp (maxSteps := 3000000) (disch := omega) only [go_sem, ↓reduceIte, reduceCtorEq, pappend, plen, h1, c1]; refine hK _ _ ?_; clear hK K
  (repeat refine PW.seq ?_); refine PW.rg rfl fun K hK => ?_; simp (maxSteps := 3000000) (disch := omega) only [go_sem, ↓reduceIte, reduceCtorEq, pappend, plen]; refine hK _ _ ?_; clear hK K
  (repeat refine PW.seq ?_); refine PW.block (PW.loop ?_)
  suffices hl1 : ∀ j : Nat, j ≤ us.length → fnu (us.drop j) k = fnu us k → PL Try.prog _ _ [(2, .bool b), (3, .int .i64 (k : Int)), (4, .ptr H.length 0 0), (5, .ptr (H.length + 1) 0 0), (8, .ptr (H.length + 2) 0 0), (10, .int .i64 (j : Int))] (H ++ [⟨62, 0, sqc s⟩, ⟨68, 0, cdc p U us⟩, ⟨118, 0, z3⟩]) _ by
    exact PL.at [2, 3, 4, 5, 8, 10] (hl1 0 (by omega) rfl) rfl rfl
  intro j hj hf
  induction hd : us.length - j using Nat.strongRecOn generalizing j with
  | _ d ih =>
    refine PL.round ?_; (repeat refine PW.seq ?_); refine PW.rg rfl fun K hK => ?_; simp (maxSteps := 3000000) (disch := omega) only [go_sem, ↓reduceIte, reduceCtorEq, pappend, plen, c7, c2]; refine hK _ _ ?_; clear hK K
    (repeat refine PW.seq ?_); refine PW.cond (t := _) rfl (fun h => ?_) (fun h => ?_)
    · have hjr : j < us.length := by have := of_decide_eq_true h; omega
      have ua := uq_at us j hjr
      have u0 := uq_0 us j hjr
      have hmem : us[j] ∈ us := List.getElem_mem hjr
      rw [fnu_drop us j k hjr] at hf
      generalize us[j] = u at *
      obtain ⟨t, q⟩ := u
      have hq := hul _ hmem
      simp only [uq1] at ua
      dsimp only at hf
      dsimp only at u0
      have so := fun K => slice_ref s p b t q false K hs hq.1 hq.2
      refine PW.skip ?_; (repeat refine PW.seq ?_); refine PW.block ?_
      by_cases htk : t = 1 + (k : Int)
      · have d1 : (t == 1 + (k : Int)) = true := by rw [beq_iff_eq]; exact htk
        rw [if_pos htk] at hf
        (repeat refine PW.seq ?_); refine PW.rg rfl fun K hK => ?_; simp (maxSteps := 3000000) (disch := omega) only [go_sem, ↓reduceIte, reduceCtorEq, pappend, plen, c7, c2, u0, ul, d1]; refine hK _ _ ?_; clear hK K
        (repeat refine PW.seq ?_); refine PW.cond (t := _) rfl (fun h => ?_) (fun h => ?_)
        rotate_left
        · cases h
        (repeat refine PW.seq ?_)
        refine PW.view (Vs.place 118) ?_
        refine PW.eq rfl (show _ = H ++ [⟨62, 0, sqc s⟩, ⟨68, 0, cdc p U us⟩, ⟨118, 0, z3⟩, ⟨118, 0, []⟩] by simp) ?_
        rw [← hf]
        dsimp only
        cases hm : sqT s p b t q with
        | er e a1 =>
          rw [hm] at so
          simp only [rvQ, ag0, ecd] at so
          have d0 : ((e : Int) + 1 == 0) = false := by rw [beq_eq_false_iff_ne]; omega
          (repeat refine PW.seq ?_); refine PW.drawi [H.length + 3] [(11, [0])] [(11, 0)] [39] mix (by kernel_rfl) (by simp <;> omega) fun K hK => ?_
          simp (maxSteps := 3000000) (disch := omega) only [go_sem, ↓reduceIte, reduceCtorEq, pappend, plen, h2, h3, c2, c3, c7, ua, ul]
          refine VCj.read (fun _ _ => so _) rfl ?_
          simp (maxSteps := 3000000) (disch := omega) only [go_sem, ↓reduceIte, reduceCtorEq, pappend, plen]
          refine hK _ _ ?_; clear hK K
          (repeat refine PW.seq ?_); refine PW.rg rfl fun K hK => ?_; simp (maxSteps := 3000000) (disch := omega) only [go_sem, ↓reduceIte, reduceCtorEq, pappend, plen, d0, z3]; refine hK _ _ ?_; clear hK K
          refine PW.ret ⟨cnV none, by simp (maxSteps := 3000000) (disch := omega) only [go_sem, ↓reduceIte, reduceCtorEq, pappend, plen, presults, presult, List.mapM_cons, List.mapM_nil, Option.pure_def, Option.bind_eq_bind, Option.bind_some, Array.toList, cnV, ag0], ?_⟩
          exact Fin.base (.id (cnV_sc _ _))
        | ok x a1 =>
          rw [hm] at so
          simp only [rvQ, agS] at so
          (repeat refine PW.seq ?_); refine PW.drawi [H.length + 3] [(11, [0])] [(11, 0)] [39] mix (by kernel_rfl) (by simp <;> omega) fun K hK => ?_
          simp (maxSteps := 3000000) (disch := omega) only [go_sem, ↓reduceIte, reduceCtorEq, pappend, plen, h2, h3, c2, c3, c7, ua, ul]
          refine VCj.read (fun _ _ => so _) rfl ?_
          simp (maxSteps := 3000000) (disch := omega) only [go_sem, ↓reduceIte, reduceCtorEq, pappend, plen]
          refine hK _ _ ?_; clear hK K
          (repeat refine PW.seq ?_); refine PW.rg rfl fun K hK => ?_; simp (maxSteps := 3000000) (disch := omega) only [go_sem, ↓reduceIte, reduceCtorEq, pappend, plen, z3]; refine hK _ _ ?_; clear hK K
          refine PW.ret ⟨cnV (some x), by simp (maxSteps := 3000000) (disch := omega) only [go_sem, ↓reduceIte, reduceCtorEq, pappend, plen, presults, presult, List.mapM_cons, List.mapM_nil, Option.pure_def, Option.bind_eq_bind, Option.bind_some, Array.toList, cnV, agS], ?_⟩
          exact Fin.base (.id (cnV_sc _ _))
      · have d1 : (t == 1 + (k : Int)) = false := by rw [beq_eq_false_iff_ne]; exact htk
        rw [if_neg htk] at hf
        (repeat refine PW.seq ?_); refine PW.rg rfl fun K hK => ?_; simp (maxSteps := 3000000) (disch := omega) only [go_sem, ↓reduceIte, reduceCtorEq, pappend, plen, c7, c2, u0, ul, d1]; refine hK _ _ ?_; clear hK K
        (repeat refine PW.seq ?_); refine PW.cond (t := _) rfl (fun h => ?_) (fun h => ?_)
        · cases h
        refine PW.skip ?_
        (repeat refine PW.seq ?_); refine PW.rg rfl fun K hK => ?_; simp (maxSteps := 3000000) (disch := omega) only [go_sem, ↓reduceIte, reduceCtorEq, pappend, plen]; refine hK _ _ ?_; clear hK K
        exact PL.at [2, 3, 4, 5, 8, 10] (ih (us.length - (j + 1)) (by omega) (j + 1) (by omega) hf rfl) rfl rfl
    · have hjr : j = us.length := by have := of_decide_eq_false h; omega
      subst hjr
      rw [List.drop_length] at hf
      rw [← hf]
      refine PW.exit ?_
      (repeat refine PW.seq ?_); refine PW.rg rfl fun K hK => ?_; simp (maxSteps := 3000000) (disch := omega) only [go_sem, ↓reduceIte, reduceCtorEq, pappend, plen, z3]; refine hK _ _ ?_; clear hK K
      refine PW.ret ⟨cnV none, by simp (maxSteps := 3000000) (disch := omega) only [go_sem, ↓reduceIte, reduceCtorEq, pappend, plen, presults, presult, List.mapM_cons, List.mapM_nil, Option.pure_def, Option.bind_eq_bind, Option.bind_some, Array.toList, cnV, ag0], ?_⟩
      exact Fin.base (.id (cnV_sc _ _))

/-! ### Quant -/
def mx3 (a b c : Int) : Int := mx2 (mx2 a b) c
theorem pmax3 (k : IntKind) (a b c : Int) : pfold pmax (.int k a) [.int k b, .int k c] = some (.int k (mx3 a b c)) := rfl
def rowR (s : Sq) (p : Pi) (b : Bool) (us : List (Int × List UInt8)) (acc : Int) (k : Nat) : Int :=
  match cnt s p b us k with
  | none => acc
  | some x => x.2.2.foldl (fun a z => mx3 a (x.1 : Int) z) acc
def qR (s : Sq) (p : Pi) (b : Bool) (us : List (Int × List UInt8)) (k : Nat) : Int := (List.range k).foldl (rowR s p b us) 0
theorem qR_succ (s : Sq) (p : Pi) (b : Bool) (us : List (Int × List UInt8)) (k : Nat) : qR s p b us (k + 1) = rowR s p b us (qR s p b us k) k := by
  unfold qR
  rw [List.range_succ, List.foldl_append]; rfl
def qRF (s : Sq) (p : Pi) (b : Bool) (us : List (Int × List UInt8)) : Int := if fitB s p b then qR s p b us (prows s p).toNat else 0
theorem qC_at (l : List Int) (j : Nat) (h : j < l.length) : (qC l)[j]? = some (.int .i64 l[j]) := by
  unfold qC
  rw [List.getElem?_map, List.getElem?_eq_getElem h]; rfl
def qrH (H : Heap) (s : Sq) (p : Pi) (U : List (List UInt8)) (us : List (Int × List UInt8)) : Heap := H ++ [⟨62, 0, sqc s⟩, ⟨68, 0, cdc p U us⟩]
theorem hsc_qrH (H : Heap) (s : Sq) (p : Pi) (U : List (List UInt8)) (us : List (Int × List UInt8)) (h : HSc H) : HSc (qrH H s p U us) := hscW (fun b hb x hx => by
  simp only [List.mem_cons, List.not_mem_nil, or_false] at hb
  rcases hb with rfl | rfl
  · exact sqc_scoped _ _ x hx
  · exact cdc_sc _ _ _ _ x hx) h

/-! ### what the slices are on both sides -/
theorem sqL_eq {c : Cx} {q : List UInt8} {n : Nat} : ∀ (r : Nat) (s : St) (a : Nat), sqL c q n r s a = (slL c q n r s a).bind fun z a => .ok (z.1, sums s.q z.1) a
  | 0, s, a => rfl
  | r + 1, s, a => by
    unfold sqL slL
    cases hm : mtkA c s q n a with
    | er e a1 => rfl
    | ok y a1 =>
      obtain ⟨e1, _⟩ := mtkA_q hm
      simp only [Rr.bind_ok]
      rw [sqL_eq r y.2 a1]
      cases slL c q n r y.2 a1 with
      | er e a2 => rfl
      | ok z a2 =>
        simp only [Rr.bind, sums]
        rw [← e1]
theorem sqT_eq (s : Sq) (p : Pi) (b : Bool) (t : Int) (q : List UInt8) : sqT s p b t q = (slT s p b t q).bind fun x a => .ok (x.1, x.2, sums (x.1 : Int) x.2) a := by
  unfold sqT slT
  split
  · split
    · rfl
    · split
      · rfl
      · split
        · rfl
        · rw [sqL_eq]
          cases slL (cxP s p b) q (nb q) (wmb s) (st0 (vl q 0 5 : Int)) 5 with
          | er e a => rfl
          | ok z a =>
            simp only [Rr.bind]
            split <;> rfl
  · rfl
theorem sums_len : ∀ (q : Int) (l : List Mb), (sums q l).length = l.length
  | _, [] => rfl
  | q, m :: r => by simp [sums, sums_len (q + m.dl) r]
theorem cnt_b {s : Sq} {p : Pi} {b : Bool} {us : List (Int × List UInt8)} {k v : Nat} {D : List Mb} {qs : List Int} (h : cnt s p b us k = some (v, D, qs)) : qs.length ≤ 4 := by
  unfold cnt at h
  split at h
  · cases h
  · rename_i u _
    rw [sqT_eq] at h
    cases hm : slT s p b u.1 u.2 with
    | er e a => rw [hm] at h; cases h
    | ok x a =>
      obtain ⟨v', l⟩ := x
      rw [hm] at h
      simp only [Rr.bind, Option.some.injEq, Prod.mk.injEq] at h
      obtain ⟨_, _, rfl⟩ := h
      rw [sums_len]
      exact (slT_b hm).1

set_option maxHeartbeats 8000000 in
set_option maxRecDepth 100000 in
theorem quant_ref (s : Sq) (p : Pi) (U : List (List UInt8)) (us : List (Int × List UInt8)) (b : Bool) (H : Heap) (hs : SqOk s) (hu : us.length ≤ 1000000) (hul : ∀ u ∈ us, i64r u.1 ∧ u.2.length ≤ 100000000) :
    CallOk Try.prog 19 [.agg (sqc s), .agg (cdc p U us), .bool b] H (.int .i64 (qRF s p b us)) H := by
  have fo := fun K => may_ref s p b K hs
  have ro := fun K => prows_ref s p K hs
  have h1 := sqc_cell s
  have h2 := sqc_len s hs
  have h3 := sqc_tk s hs
  have c1 := cdc_cell p U us
  have c2 := cdc_len p U us
  have c3 := cdc_p p U us
  have c4 := cdc_t p U us
  have hpr := prows_b4 (s := s) (p := p)
  unfold qRF
  refine CallOk.body (F0 := [(0, .agg (sqc s)), (1, .agg (cdc p U us)), (2, .bool b)]) Try.func19 rfl Try.ntmps19 Try.results19 rfl (by kernel_rfl) rfl ?_
  (repeat refine PW.seq ?_); refine PW.rg rfl fun K hK => ?_; simp (maxSteps := 3000000) (disch := omega) only [go_sem, ↓reduceIte, reduceCtorEq, pappend, plen, h1, c1]; refine hK _ _ ?_; clear hK K
  (repeat refine PW.seq ?_); refine PW.rg rfl fun K hK => ?_; simp (maxSteps := 3000000) (disch := omega) only [go_sem, ↓reduceIte, reduceCtorEq, pappend, plen]; refine hK _ _ ?_; clear hK K
  (repeat refine PW.seq ?_); refine PW.rg rfl fun K hK => ?_; simp (maxSteps := 3000000) (disch := omega) only [go_sem, ↓reduceIte, reduceCtorEq, pappend, plen, h2, h3, c2, c3]
  refine VCx.call (fo _) rfl ?_; simp (maxSteps := 3000000) (disch := omega) only [go_sem, ↓reduceIte, reduceCtorEq, pappend, plen]; refine hK _ _ ?_; clear hK K
  cases hf : fitB s p b with
  | false =>
    (repeat refine PW.seq ?_); refine PW.cond (t := _) rfl (fun h => ?_) (fun h => ?_)
    rotate_left
    · cases h
    (repeat refine PW.seq ?_); refine PW.rg rfl fun K hK => ?_; simp (maxSteps := 3000000) (disch := omega) only [go_sem, ↓reduceIte, reduceCtorEq, pappend, plen]; refine hK _ _ ?_; clear hK K
    (refine PW.ret ⟨_, rfl, ?_⟩; first | refine .inl ⟨?_, rfl⟩ | refine Fin.base (.id' ?_ (.bool _)) | refine Fin.base (.id' ?_ (.int _ _)))
    rfl
  | true =>
    (repeat refine PW.seq ?_); refine PW.cond (t := _) rfl (fun h => ?_) (fun h => ?_)
    · cases h
    refine PW.skip ?_
    obtain ⟨r, hr⟩ : ∃ r : Nat, prows s p = (r : Int) := ⟨(prows s p).toNat, by omega⟩
    rw [hr] at ro hpr ⊢
    rw [Int.toNat_natCast, if_pos rfl]
    (repeat refine PW.seq ?_); refine PW.rg rfl fun K hK => ?_; simp (maxSteps := 3000000) (disch := omega) only [go_sem, ↓reduceIte, reduceCtorEq, pappend, plen]; refine hK _ _ ?_; clear hK K
    (repeat refine PW.seq ?_); refine PW.block (PW.loop ?_)
    have fz : ∀ (z : Int) (k : Nat) (F : Fr) (K : Heap), slot F 2 = .bool b → slot F 3 = .ptr H.length 0 0 → slot F 4 = .ptr (H.length + 1) 0 0 → slot F 7 = .int .i64 z → slot F 8 = .int .i64 (k : Int) → FzF (qrH H s p U us).length K F [(2, .bool b), (3, .ptr H.length 0 0), (4, .ptr (H.length + 1) 0 0), (7, .int .i64 (z)), (8, .int .i64 (k : Int))] := fun z k F K q1 q2 q3 q4 q5 => by
      refine ⟨?_, ?_, ?_, ?_, ?_, trivial⟩
      · rw [q1]; exact .id (.bool _)
      · rw [q2]; exact .id (.ptr (by simp [qrH]))
      · rw [q3]; exact .id (.ptr (by simp [qrH]))
      · rw [q4]; exact .id (.int _ _)
      · rw [q5]; exact .id (.int _ _)
    suffices hl1 : ∀ k : Nat, k ≤ r → PL Try.prog _ _ [(2, .bool b), (3, .ptr H.length 0 0), (4, .ptr (H.length + 1) 0 0), (7, .int .i64 (qR s p b us k)), (8, .int .i64 (k : Int))] (qrH H s p U us) _ by
      exact PL.at [2, 3, 4, 7, 8] (hl1 0 (by omega)) rfl rfl
    clear fo
    intro k hk
    induction hd : r - k using Nat.strongRecOn generalizing k with
    | _ d ih =>
      refine PL.round ?_
      (repeat refine PW.seq ?_); refine PW.rg rfl fun K hK => ?_; simp (maxSteps := 3000000) (disch := omega) only [go_sem, ↓reduceIte, reduceCtorEq, pappend, plen, qrH, h2, h3, c2, c3]
      refine VCx.call (ro _) rfl ?_; simp (maxSteps := 3000000) (disch := omega) only [go_sem, ↓reduceIte, reduceCtorEq, pappend, plen]; refine hK _ _ ?_; clear hK K
      (repeat refine PW.seq ?_); refine PW.cond (t := _) rfl (fun h => ?_) (fun h => ?_)
      · have hkr : k < r := by have := of_decide_eq_true h; omega
        have cn := fun K => counts_ref s p U us b k K hs (by omega) hu hul
        have hqs := qR_succ s p b us k
        unfold rowR at hqs
        refine PW.skip ?_; (repeat refine PW.seq ?_); refine PW.block ?_
        cases hfn : cnt s p b us k with
        | none =>
          rw [hfn] at hqs cn
          dsimp only at hqs
          simp only [cnV, ag0] at cn
          (repeat refine PW.seq ?_); refine PW.rg rfl fun K hK => ?_; simp (maxSteps := 3000000) (disch := omega) only [go_sem, ↓reduceIte, reduceCtorEq, pappend, plen, h2, h3, c2, c4]
          refine VCx.call (cn _) rfl ?_; simp (maxSteps := 3000000) (disch := omega) only [go_sem, ↓reduceIte, reduceCtorEq, pappend, plen]; refine hK _ _ ?_; clear hK K
          (repeat refine PW.seq ?_); refine PW.rg rfl fun K hK => ?_; simp (maxSteps := 3000000) (disch := omega) only [go_sem, ↓reduceIte, reduceCtorEq, pappend, plen]; refine hK _ _ ?_; clear hK K
          (repeat refine PW.seq ?_); refine PW.block (PW.loop ?_)
          refine PL.round ?_; (repeat refine PW.seq ?_); refine PW.rg rfl fun K hK => ?_; simp (maxSteps := 3000000) (disch := omega) only [go_sem, ↓reduceIte, reduceCtorEq, pappend, plen]; refine hK _ _ ?_; clear hK K
          (repeat refine PW.seq ?_); refine PW.cond (t := _) rfl (fun h => ?_) (fun h => ?_)
          · cases h
          refine PW.exit ?_
          (repeat refine PW.seq ?_); refine PW.rg rfl fun K hK => ?_; simp (maxSteps := 3000000) (disch := omega) only [go_sem, ↓reduceIte, reduceCtorEq, pappend, plen]; refine hK _ _ ?_; clear hK K
          rw [← hqs]
          exact PL.view (Vs.trim (F1 := [(2, .bool b), (3, .ptr H.length 0 0), (4, .ptr (H.length + 1) 0 0), (7, .int .i64 (qR s p b us (k + 1))), (8, .int .i64 ((k + 1 : Nat) : Int))]) (H1 := qrH H s p U us) (hsc_qrH H s p U us) (by simp [qrH]) (List.append_assoc _ [_, _] [_]).symm (fz _ (k + 1) _ _ rfl rfl rfl rfl rfl)) (ih (r - (k + 1)) (by omega) (k + 1) (by omega) rfl)
        | some x =>
          obtain ⟨v, D, qs⟩ := x
          have hql := cnt_b hfn
          have qcl := qC_len qs
          rw [hfn] at hqs cn
          dsimp only at hqs
          simp only [cnV, agS] at cn
          (repeat refine PW.seq ?_); refine PW.rg rfl fun K hK => ?_; simp (maxSteps := 3000000) (disch := omega) only [go_sem, ↓reduceIte, reduceCtorEq, pappend, plen, h2, h3, c2, c4]
          refine VCx.call (cn _) rfl ?_; simp (maxSteps := 3000000) (disch := omega) only [go_sem, ↓reduceIte, reduceCtorEq, pappend, plen]; refine hK _ _ ?_; clear hK K
          (repeat refine PW.seq ?_); refine PW.rg rfl fun K hK => ?_; simp (maxSteps := 3000000) (disch := omega) only [go_sem, ↓reduceIte, reduceCtorEq, pappend, plen]; refine hK _ _ ?_; clear hK K
          (repeat refine PW.seq ?_); refine PW.block (PW.loop ?_)
          suffices hl2 : ∀ (j : Nat) (acc : Int), j ≤ qs.length → (qs.drop j).foldl (fun a z => mx3 a (v : Int) z) acc = qR s p b us (k + 1) → PL Try.prog _ _ [(2, .bool b), (3, .ptr H.length 0 0), (4, .ptr (H.length + 1) 0 0), (7, .int .i64 acc), (8, .int .i64 (k : Int)), (9, .ptr (H.length + 2) 0 0), (10, .bool true), (11, .int .i64 (j : Int))] (qrH H s p U us ++ [⟨118, 0, [.int .i64 (v : Int), .slice (D.flatMap mbc) D.length false, .slice (qC qs) qs.length false]⟩]) _ by
            exact PL.at [2, 3, 4, 7, 8, 9, 10, 11] (hl2 0 _ (by omega) hqs.symm) rfl (by simp [qrH])
          intro j acc hj hmx
          induction hd2 : qs.length - j using Nat.strongRecOn generalizing j acc with
          | _ d2 ih2 =>
            refine PL.round ?_
            by_cases hjl : j < qs.length
            · have d3 : decide ((j : Int) < (qs.length : Int)) = true := decide_eq_true (by omega)
              have hg := qC_at qs j hjl
              rw [List.drop_eq_getElem_cons hjl, List.foldl_cons] at hmx
              generalize qs[j] = z at *
              (repeat refine PW.seq ?_); refine PW.rg rfl fun K hK => ?_; simp (maxSteps := 3000000) (disch := omega) only [go_sem, ↓reduceIte, reduceCtorEq, pappend, plen, qrH, List.append_assoc, List.cons_append, List.nil_append, d3]; refine hK _ _ ?_; clear hK K
              (repeat refine PW.seq ?_); refine PW.cond (t := _) rfl (fun h => ?_) (fun h => ?_)
              rotate_left
              · cases h
              refine PW.skip ?_; (repeat refine PW.seq ?_); refine PW.block ?_
              (repeat refine PW.seq ?_); refine PW.draw mix (by kernel_rfl) fun K hK => ?_; simp (maxSteps := 3000000) (disch := omega) only [go_sem, ↓reduceIte, reduceCtorEq, pappend, plen, hg, qcl, pmax3]; refine hK _ _ ?_; clear hK K
              (repeat refine PW.seq ?_); refine PW.rg rfl fun K hK => ?_; simp (maxSteps := 3000000) (disch := omega) only [go_sem, ↓reduceIte, reduceCtorEq, pappend, plen]; refine hK _ _ ?_; clear hK K
              exact PL.at [2, 3, 4, 7, 8, 9, 10, 11] (ih2 (qs.length - (j + 1)) (by omega) (j + 1) _ (by omega) hmx rfl) rfl (by simp [qrH])
            · have d3 : decide ((j : Int) < (qs.length : Int)) = false := decide_eq_false (by omega)
              have hjl2 : j = qs.length := by omega
              subst hjl2
              rw [List.drop_length] at hmx
              simp only [List.foldl_nil] at hmx
              (repeat refine PW.seq ?_); refine PW.rg rfl fun K hK => ?_; simp (maxSteps := 3000000) (disch := omega) only [go_sem, ↓reduceIte, reduceCtorEq, pappend, plen, qrH, List.append_assoc, List.cons_append, List.nil_append, d3]; refine hK _ _ ?_; clear hK K
              (repeat refine PW.seq ?_); refine PW.cond (t := _) rfl (fun h => ?_) (fun h => ?_)
              · cases h
              refine PW.exit ?_
              (repeat refine PW.seq ?_); refine PW.rg rfl fun K hK => ?_; simp (maxSteps := 3000000) (disch := omega) only [go_sem, ↓reduceIte, reduceCtorEq, pappend, plen]; refine hK _ _ ?_; clear hK K
              rw [hmx]
              exact PL.view (Vs.trim (F1 := [(2, .bool b), (3, .ptr H.length 0 0), (4, .ptr (H.length + 1) 0 0), (7, .int .i64 (qR s p b us (k + 1))), (8, .int .i64 ((k + 1 : Nat) : Int))]) (H1 := qrH H s p U us) (hsc_qrH H s p U us) (by simp [qrH]) (List.append_assoc _ [_, _] [_]).symm (fz _ (k + 1) _ _ rfl rfl rfl rfl rfl)) (ih (r - (k + 1)) (by omega) (k + 1) (by omega) rfl)
      · have hkr : k = r := by have := of_decide_eq_false h; omega
        subst hkr
        refine PW.exit ?_
        (repeat refine PW.seq ?_); refine PW.rg rfl fun K hK => ?_; simp (maxSteps := 3000000) (disch := omega) only [go_sem, ↓reduceIte, reduceCtorEq, pappend, plen]; refine hK _ _ ?_; clear hK K
        (refine PW.ret ⟨_, rfl, ?_⟩; first | refine .inl ⟨?_, rfl⟩ | refine Fin.base (.id' ?_ (.bool _)) | refine Fin.base (.id' ?_ (.int _ _)))
        rfl

end Go.Proofs.Ytcabpncdgagihaa.Sc

namespace Go.Proofs.Ytcabpncdgagihaa.Sc
set_option linter.all false
set_option linter.unusedVariables false
set_option linter.unusedSimpArgs false
open Pm Ty Go.RowKit

/-! ### both sides compute the same -/
theorem mx2_b (a b : Int) : a ≤ mx2 a b ∧ b ≤ mx2 a b := by unfold mx2; split <;> omega
theorem mx2_le {a b : Int} (h : b ≤ a) : mx2 a b = a := by unfold mx2; rw [if_neg (by omega)]
theorem mxs_fold : ∀ (l : List Mb) (acc q : Int), mxs acc q l = (sums q l).foldl mx2 acc
  | [], _, _ => rfl
  | m :: r, acc, q => by
    simp only [mxs, sums, List.foldl_cons]
    exact mxs_fold r _ _
theorem fold3 (v : Int) : ∀ (zs : List Int) (acc : Int), v ≤ acc → zs.foldl (fun a z => mx3 a v z) acc = zs.foldl mx2 acc
  | [], _, _ => rfl
  | z :: r, acc, h => by
    simp only [List.foldl_cons]
    rw [show mx3 acc v z = mx2 acc z by unfold mx3; rw [mx2_le h]]
    exact fold3 v r _ (by have := (mx2_b acc z).1; omega)
theorem fold3c (v : Int) (zs : List Int) (acc : Int) (hz : zs ≠ []) : zs.foldl (fun a z => mx3 a v z) acc = zs.foldl mx2 (mx2 acc v) := by
  cases zs with
  | nil => exact absurd rfl hz
  | cons z r =>
    simp only [List.foldl_cons]
    exact fold3 v r _ (by unfold mx3; have h1 := (mx2_b acc v).2; have h2 := (mx2_b (mx2 acc v) z).1; omega)
theorem slT_1 {s : Sq} {p : Pi} {b : Bool} {t : Int} {q : List UInt8} {v : Nat} {l : List Mb} {a1 : Nat} (h : slT s p b t q = .ok (v, l) a1) : l ≠ [] := by
  unfold slT at h
  split at h
  · rename_i hc
    rw [Bool.and_eq_true] at hc
    have hw : 1 ≤ wmb s := by
      have hv : pvalid s p = true := by
        have := hc.1
        unfold fitB at this
        rw [Bool.and_eq_true] at this
        exact this.1
      have := pvalid_h hv
      have e := Int.tdiv_eq_ediv_of_nonneg (a := s.w) (b := 16) (by omega)
      unfold wmb
      omega
    split at h
    · cases h
    split at h
    · cases h
    split at h
    · cases h
    obtain ⟨z, a2, h1, h⟩ := Rr.bind_okE h
    split at h
    · injection h with h _
      injection h with h3 h4
      subst h3 h4
      obtain ⟨e1, e2⟩ := slL_sums _ _ _ h1
      intro e
      rw [e] at e1
      simp at e1
      omega
    · cases h
  · cases h
theorem rowR_eq (s : Sq) (p : Pi) (b : Bool) (us : List (Int × List UInt8)) (acc : Int) (k : Nat) : rowR s p b us acc k = rowP s p b us acc k := by
  unfold rowR rowP cnt
  cases fnu us k with
  | none => rfl
  | some u =>
    dsimp only
    rw [sqT_eq]
    cases hm : slT s p b u.1 u.2 with
    | er e a => rfl
    | ok x a =>
      obtain ⟨v, l⟩ := x
      simp only [Rr.bind]
      have hn := slT_1 hm
      rw [fold3c, mxs_fold]
      cases l with
      | nil => exact absurd rfl hn
      | cons m r => simp [sums]
theorem qRF_eq (s : Sq) (p : Pi) (b : Bool) (us : List (Int × List UInt8)) : qRF s p b us = qPF s p b us := by
  unfold qRF qPF qR qP
  rw [show rowR s p b us = rowP s p b us from funext fun acc => funext fun k => rowR_eq s p b us acc k]

/-! ### the statement's own functions -/
theorem awake11q (H : Heap) : CallOk Try.prog 17 [] H (.bool true) H := CallOk.evalT 100000 (by kernel_rfl)
def lit (us : List (Int × List UInt8)) : Bool := decide (us.length ≤ 12) && us.all fun u => decide (u.2.length ≤ 4000)
def rf0 : List PV := [.int .i64 0, .int .i64 0, .slice [] 0 true, .slice [] 0 true, .slice [] 0 true, .int .i64 0, .int .i64 0, .slice [] 0 true, .slice [] 0 true, .slice [] 0 true, .int .i64 0, .int .i64 0, .slice [] 0 true, .slice [] 0 true, .slice [] 0 true]
theorem pmz3 (k : IntKind) : pfold pmax (.int k 0) [.int k 0, .int k 0] = some (.int k 0) := rfl
theorem pmz6 (k : IntKind) : pfold pmax (.int k 0) [.int k 0, .int k 0, .int k 0, .int k 0, .int k 0] = some (.int k 0) := rfl
theorem all_drop (us : List (Int × List UInt8)) (j : Nat) (h : j < us.length) : ((us.drop j).all fun u => decide (u.2.length ≤ 4000)) = (decide (us[j].2.length ≤ 4000) && (us.drop (j + 1)).all fun u => decide (u.2.length ≤ 4000)) := by
  rw [List.drop_eq_getElem_cons h]; rfl

set_option maxHeartbeats 4000000 in
theorem light_ok11 (p : Pi) (U : List (List UInt8)) (us : List (Int × List UInt8)) (H : Heap) (hu : us.length ≤ 9223372036854775807) : CallOk Try.prog 16 [.agg (cdc p U us), .agg rf0] H (.bool (lit us)) H := by
  have c1 := cdc_cell p U us
  have c2 := cdc_len p U us
  have c7 := cdc_7 p U us
  have ul := uq_len us
  unfold lit
  refine CallOk.body (F0 := [(0, .agg (cdc p U us)), (1, .agg rf0)]) Try.func16 rfl Try.ntmps16 Try.results16 rfl (by kernel_rfl) rfl ?_
  (repeat refine PW.seq ?_); refine PW.rg rfl fun K hK => ?_; simp (maxSteps := 3000000) (disch := omega) only [go_sem, ↓reduceIte, reduceCtorEq, pappend, plen, c1, rf0]; refine hK _ _ ?_; clear hK K
  (repeat refine PW.seq ?_); refine PW.rg rfl fun K hK => ?_; simp (maxSteps := 3000000) (disch := omega) only [go_sem, ↓reduceIte, reduceCtorEq, pappend, plen, c2, c7]; refine hK _ _ ?_; clear hK K
  by_cases h12 : us.length ≤ 12
  rotate_left
  · have d1 : decide ((12 : Int) < (us.length : Int)) = true := decide_eq_true (by omega)
    (repeat refine PW.seq ?_); refine PW.cond (t := _) rfl (fun h => ?_) (fun h => ?_)
    rotate_left
    · rw [d1] at h; cases h
    rw [decide_eq_false h12, Bool.false_and]
    (repeat refine PW.seq ?_); refine PW.rg rfl fun K hK => ?_; simp (maxSteps := 3000000) (disch := omega) only [go_sem, ↓reduceIte, reduceCtorEq, pappend, plen]; refine hK _ _ ?_; clear hK K
    (refine PW.ret ⟨_, rfl, ?_⟩; first | refine .inl ⟨?_, rfl⟩ | refine Fin.base (.id' ?_ (.bool _)) | refine Fin.base (.id' ?_ (.int _ _)))
    rfl
  have d1 : decide ((12 : Int) < (us.length : Int)) = false := decide_eq_false (by omega)
  (repeat refine PW.seq ?_); refine PW.cond (t := _) rfl (fun h => ?_) (fun h => ?_)
  · rw [d1] at h; cases h
  rw [decide_eq_true h12, Bool.true_and]
  refine PW.skip ?_
  (repeat refine PW.seq ?_); refine PW.rg rfl fun K hK => ?_; simp (maxSteps := 3000000) (disch := omega) only [go_sem, ↓reduceIte, reduceCtorEq, pappend, plen]; refine hK _ _ ?_; clear hK K
  (repeat refine PW.seq ?_); refine PW.block (PW.loop ?_)
  suffices hl1 : ∀ j : Nat, j ≤ us.length → ((us.drop j).all fun u => decide (u.2.length ≤ 4000)) = (us.all fun u => decide (u.2.length ≤ 4000)) → PL Try.prog _ _ [(2, .ptr H.length 0 0), (3, .ptr (H.length + 1) 0 0), (5, .int .i64 (j : Int))] (H ++ [⟨68, 0, cdc p U us⟩, ⟨73, 0, rf0⟩]) _ by
    exact PL.at [2, 3, 5] (hl1 0 (by omega) rfl) rfl rfl
  intro j hj hf
  induction hd : us.length - j using Nat.strongRecOn generalizing j with
  | _ d ih =>
    refine PL.round ?_; (repeat refine PW.seq ?_); refine PW.rg rfl fun K hK => ?_; simp (maxSteps := 3000000) (disch := omega) only [go_sem, ↓reduceIte, reduceCtorEq, pappend, plen, c7, c2]; refine hK _ _ ?_; clear hK K
    (repeat refine PW.seq ?_); refine PW.cond (t := _) rfl (fun h => ?_) (fun h => ?_)
    · have hjr : j < us.length := by have := of_decide_eq_true h; omega
      have u1 := uq_1 us j hjr
      rw [all_drop us j hjr] at hf
      generalize us[j] = u at *
      refine PW.skip ?_; (repeat refine PW.seq ?_); refine PW.block ?_
      by_cases h4 : u.2.length ≤ 4000
      · have d4 : decide ((4000 : Int) < (u.2.length : Int)) = false := decide_eq_false (by omega)
        rw [decide_eq_true h4, Bool.true_and] at hf
        (repeat refine PW.seq ?_); refine PW.rg rfl fun K hK => ?_; simp (maxSteps := 3000000) (disch := omega) only [go_sem, ↓reduceIte, reduceCtorEq, pappend, plen, c7, c2, u1, ul, d4]; refine hK _ _ ?_; clear hK K
        (repeat refine PW.seq ?_); refine PW.cond (t := _) rfl (fun h => ?_) (fun h => ?_)
        · cases h
        refine PW.skip ?_
        (repeat refine PW.seq ?_); refine PW.rg rfl fun K hK => ?_; simp (maxSteps := 3000000) (disch := omega) only [go_sem, ↓reduceIte, reduceCtorEq, pappend, plen]; refine hK _ _ ?_; clear hK K
        exact PL.at [2, 3, 5] (ih (us.length - (j + 1)) (by omega) (j + 1) (by omega) hf rfl) rfl rfl
      · have d4 : decide ((4000 : Int) < (u.2.length : Int)) = true := decide_eq_true (by omega)
        rw [decide_eq_false h4, Bool.false_and] at hf
        (repeat refine PW.seq ?_); refine PW.rg rfl fun K hK => ?_; simp (maxSteps := 3000000) (disch := omega) only [go_sem, ↓reduceIte, reduceCtorEq, pappend, plen, c7, c2, u1, ul, d4]; refine hK _ _ ?_; clear hK K
        (repeat refine PW.seq ?_); refine PW.cond (t := _) rfl (fun h => ?_) (fun h => ?_)
        rotate_left
        · cases h
        rw [← hf]
        (repeat refine PW.seq ?_); refine PW.rg rfl fun K hK => ?_; simp (maxSteps := 3000000) (disch := omega) only [go_sem, ↓reduceIte, reduceCtorEq, pappend, plen]; refine hK _ _ ?_; clear hK K
        (refine PW.ret ⟨_, rfl, ?_⟩; first | refine .inl ⟨?_, rfl⟩ | refine Fin.base (.id' ?_ (.bool _)) | refine Fin.base (.id' ?_ (.int _ _)))
        rfl
    · have hjr : j = us.length := by have := of_decide_eq_false h; omega
      subst hjr
      rw [List.drop_length] at hf
      rw [← hf]
      refine PW.exit ?_
      (repeat refine PW.seq ?_); refine PW.rg rfl fun K hK => ?_; simp (maxSteps := 3000000) (disch := omega) only [go_sem, ↓reduceIte, reduceCtorEq, pappend, plen, rf0, pmz3]; refine hK _ _ ?_; clear hK K
      (repeat refine PW.seq ?_); refine PW.rg rfl fun K hK => ?_; simp (maxSteps := 3000000) (disch := omega) only [go_sem, ↓reduceIte, reduceCtorEq, pappend, plen, rf0, pmz6]; refine hK _ _ ?_; clear hK K
      (repeat refine PW.seq ?_); refine PW.rg rfl fun K hK => ?_; simp (maxSteps := 3000000) (disch := omega) only [go_sem, ↓reduceIte, reduceCtorEq, pappend, plen]; refine hK _ _ ?_; clear hK K
      (refine PW.ret ⟨_, rfl, ?_⟩; first | refine .inl ⟨?_, rfl⟩ | refine Fin.base (.id' ?_ (.bool _)) | refine Fin.base (.id' ?_ (.int _ _)))
      rfl

set_option maxHeartbeats 4000000 in
theorem law_quants (s : Sq) (p : Pi) (U : List (List UInt8)) (us : List (Int × List UInt8)) (b : Bool) (H : Heap) (hs : SqOk s) (hu : us.length ≤ 9223372036854775807) (hul : ∀ u ∈ us, i64r u.1) :
    CallOk Try.prog 4 [.agg (sqc s), .agg (cdc p U us), .bool b] H (.bool true) H := by
  have h1 := sqc_cell s
  have h2 := sqc_len s hs
  have h3 := sqc_tk s hs
  have c1 := cdc_cell p U us
  have c2 := cdc_len p U us
  have c4 := cdc_t p U us
  have lo := fun K => light_ok11 p U us K hu
  unfold rf0 at lo
  refine CallOk.body (F0 := [(0, .agg (sqc s)), (1, .agg (cdc p U us)), (2, .bool b)]) Try.func4 rfl Try.ntmps4 Try.results4 rfl (by kernel_rfl) rfl ?_
  (repeat refine PW.seq ?_); refine PW.rg rfl fun K hK => ?_; simp (maxSteps := 3000000) (disch := omega) only [go_sem, ↓reduceIte, reduceCtorEq, pappend, plen, h1, c1]; refine hK _ _ ?_; clear hK K
  (repeat refine PW.seq ?_); refine PW.rg rfl fun K hK => ?_; simp (maxSteps := 3000000) (disch := omega) only [go_sem, ↓reduceIte, reduceCtorEq, pappend, plen, c2, c4]
  refine VCx.call (lo _) rfl ?_; simp (maxSteps := 3000000) (disch := omega) only [go_sem, ↓reduceIte, reduceCtorEq, pappend, plen]; refine hK _ _ ?_; clear hK K
  cases hl : lit us with
  | false =>
    (repeat refine PW.seq ?_); refine PW.cond (t := _) rfl (fun h => ?_) (fun h => ?_)
    rotate_left
    · cases h
    (repeat refine PW.seq ?_); refine PW.rg rfl fun K hK => ?_; simp (maxSteps := 3000000) (disch := omega) only [go_sem, ↓reduceIte, reduceCtorEq, pappend, plen]; refine hK _ _ ?_; clear hK K
    (refine PW.ret ⟨_, rfl, ?_⟩; first | refine .inl ⟨?_, rfl⟩ | refine Fin.base (.id' ?_ (.bool _)) | refine Fin.base (.id' ?_ (.int _ _)))
    rfl
  | true =>
    (repeat refine PW.seq ?_); refine PW.cond (t := _) rfl (fun h => ?_) (fun h => ?_)
    · cases h
    refine PW.skip ?_
    unfold lit at hl
    rw [Bool.and_eq_true] at hl
    have hl1 : us.length ≤ 12 := of_decide_eq_true hl.1
    have hl2 : ∀ u ∈ us, i64r u.1 ∧ u.2.length ≤ 100000000 := fun u hm => ⟨hul u hm, by
      have := of_decide_eq_true (List.all_eq_true.1 hl.2 u hm)
      omega⟩
    have q1 := fun K => quant_ok s p U us b K hs (by omega) hl2
    have q2 := fun K => quant_ref s p U us b K hs (by omega) hl2
    have d1 : (qPF s p b us == qPF s p b us) = true := by simp
    rw [qRF_eq] at q2
    (repeat refine PW.seq ?_); refine PW.draw mix (by kernel_rfl) fun K hK => ?_; simp (maxSteps := 3000000) (disch := omega) only [go_sem, ↓reduceIte, reduceCtorEq, pappend, plen]
    refine VCy.callP awake11q rfl ?_; simp (maxSteps := 3000000) (disch := omega) only [go_sem, ↓reduceIte, reduceCtorEq, pappend, plen, h2, h3, c2, c4]
    refine VCy.call (q1 _) rfl ?_; simp (maxSteps := 3000000) (disch := omega) only [go_sem, ↓reduceIte, reduceCtorEq, pappend, plen, h2, h3, c2, c4]
    refine VCy.call (q2 _) rfl ?_; simp (maxSteps := 3000000) (disch := omega) only [go_sem, ↓reduceIte, reduceCtorEq, pappend, plen, d1]; refine hK _ _ ?_; clear hK K
    (refine PW.ret ⟨_, rfl, ?_⟩; first | refine .inl ⟨?_, rfl⟩ | refine Fin.base (.id' ?_ (.bool _)) | refine Fin.base (.id' ?_ (.int _ _)))
    rfl

end Go.Proofs.Ytcabpncdgagihaa.Sc

namespace Go.Proofs.Ytcabpncdgagihaa.Lpq
set_option linter.all false
set_option linter.unusedVariables false
set_option linter.unusedSimpArgs false
open Go.ChangeShapes Go.WideShapes Go.ChangeAt Go.RowKit Pm Sc Lp

theorem law : ∀ xs, ArgsShp Try.prog Try.f4.params.toList xs → CallOk Try.prog 4 xs [] (.bool true) [] := by
  intro xs h
  rw [Try.params4] at h
  obtain ⟨x, r, rfl, hx, h⟩ := h.cons
  obtain ⟨y, r, rfl, hy, h⟩ := h.cons
  obtain ⟨z, r, rfl, hz, h⟩ := h.cons
  obtain rfl := h.nil
  obtain ⟨ps, hp, rfl⟩ := hx.agg (by simp [aggT, Try.underlying62])
  obtain ⟨s, rfl, hs⟩ := shp_seq hp
  obtain ⟨qs, hq, rfl⟩ := hy.agg (by simp [aggT, Try.underlying68])
  obtain ⟨b, hb⟩ := shp_bool (hz.one (by simp [aggT, Try.underlying4]))
  injection hb with hb _
  subst hb
  obtain ⟨pss, rfl, hf⟩ := hq.fields Try.underlying68
  match pss, hf with
  | [p, u, l], ⟨hp, hu, hl, _⟩ =>
    obtain ⟨p, rfl, _⟩ := shp_pic hp
    obtain ⟨U, rfl, _, _⟩ := hu.of_list (enc := usr1) (good := fun _ => True) Try.underlying65 (fun q hq => by
      obtain ⟨x, rfl⟩ := shp_bytes hq
      exact ⟨x, rfl, trivial⟩)
    obtain ⟨us, rfl, hm, hg⟩ := hl.of_list (enc := uq1) (good := fun u => i64r u.1) Try.underlying66 (fun q hq => by
      obtain ⟨t, x, rfl, ht⟩ := shp_unit hq
      exact ⟨(t, x), rfl, ht⟩)
    exact law_quants s p U us b [] hs (by simp [maxLen] at hm; omega) hg

set_option maxRecDepth 100000 in
theorem pictureQuants_lifted (os : Os) (started : os.Started) (H : Type) (enc : TypeId × Value → H) :
    ReturnsInHanded {} Try.checked os 4 .any (Rows.pictureQuantsSpec.pre6 enc Try.prog Try.f4 Rows.pictureQuantsRow.domain false) (Rows.pictureQuantsSpec.post enc Try.prog Try.f4 false true false false) := by
  refine returnsInHanded_of_change (C := Try.checked) own started (by kernel_rfl) Try.func4
    (ChangeSpec.witness6 (enc := enc) (C := Try.checked) false ⟨#[], #[.agg (#[.int .i64 0, .int .i64 0, .int .i64 0, .int .i64 0, .bool false, .int .i64 0, .int .i64 0] ++ Array.replicate 128 (.int .u8 0)), .agg #[.int .i64 0, .int .i64 0, .int .i64 0, .bool false, .bool false, .bool false, .slice none 0 0, .slice none 0 0], .bool false], []⟩ 8 (by kernel_rfl) (by kernel_rfl) (by kernel_rfl) (by kernel_rfl)) ?_
  intro W base args ds gs before hval hW _ _
  exact law_call (P := Try.prog) (fn := Try.f4) (n := 12) (tb := 4) (b0 := base) (r := .any) law laidOut (by kernel_rfl) (by kernel_rfl) (by kernel_rfl) Try.underlying4 rfl
    (fun ds hd => match ds, hd with | [d0, d1, d2], _ => rfl) hval hW

theorem pictureQuants_holds : Rows.PictureQuantsSaid :=
  OpenClaim.holds_of_wide 4 Try.f4 rfl rfl rfl rfl rfl rfl rfl ⟨rfl, rfl, rfl, rfl, rfl⟩ rfl rfl rfl rfl rfl (by kernel_rfl) Try.func4 (by kernel_rfl)
    (of_decide_eq_true (by kernel_rfl)) (by unfold Func.isWrapper; first | (rw [if_pos (by decide +kernel)]; kernel_rfl) | (rw [if_neg (by decide +kernel)]; exact ⟨rfl, rfl⟩))
    (fun os started H enc _ => pictureQuants_lifted os started H enc)

end Go.Proofs.Ytcabpncdgagihaa.Lpq
