/-
  Contracts of chapter 10: the writer of macroblocks, part 5 (levels).
-/
import Derived.Test.YtnjnikafhbholaaHg
namespace Go.Proofs.Ytnjnikafhbholaa.Sc
set_option linter.all false
set_option linter.unusedVariables false
set_option linter.unusedSimpArgs false
open Pm Ty Go.RowKit

def blkM (m : Mb) (n : Nat) : List Int := (m.lv.drop (n * 64)).take 64
def dcS (s : St) (k : Nat) : Int := if k = 0 then s.da else if k = 1 then s.db else s.dc
def setD (s : St) (k : Nat) (x : Int) : St := if k = 0 then ⟨s.q, x, s.db, s.dc, s.va, s.vb, s.vc, s.vd⟩ else if k = 1 then ⟨s.q, s.da, x, s.dc, s.va, s.vb, s.vc, s.vd⟩ else ⟨s.q, s.da, s.db, x, s.va, s.vb, s.vc, s.vd⟩
/-- The last n blocks. -/
def lvsR (m : Mb) : Nat → St → List Bool × St
  | 0, s => ([], s)
  | n + 1, s => if flagAt (cdl m) (5 - n) then
      (if m.k = 2 then (bkc (blkM m (5 - n)) 0 ++ (lvsR m n s).1, (lvsR m n s).2)
       else (sg (intAt m.lv ((5 - n) * 64) - dcS s (5 - n - 3)) ++ (bkc (blkM m (5 - n)) 1 ++ (lvsR m n (setD s (5 - n - 3) (intAt m.lv ((5 - n) * 64)))).1), (lvsR m n (setD s (5 - n - 3) (intAt m.lv ((5 - n) * 64)))).2)) else lvsR m n s
/-- Levels in range. -/
def lrM (m : Mb) : Prop := ∀ q, q < 384 → win (intAt m.lv q) 4095 = true
def dcR (s : St) : Prop := ∀ k, -4095 ≤ dcS s k ∧ dcS s k ≤ 4095
theorem dcR_set {s : St} (h : dcR s) (k : Nat) {x : Int} (hx : -4095 ≤ x ∧ x ≤ 4095) : dcR (setD s k x) := fun e => by
  have h0 : -4095 ≤ s.da ∧ s.da ≤ 4095 := h 0
  have h1 : -4095 ≤ s.db ∧ s.db ≤ 4095 := h 1
  have h2 : -4095 ≤ s.dc ∧ s.dc ≤ 4095 := h 2
  unfold setD
  split
  · unfold dcS; dsimp only; split; exact hx; split; exact h1; exact h2
  · split
    · unfold dcS; dsimp only; split; exact h0; split; exact hx; exact h2
    · unfold dcS; dsimp only; split; exact h0; split; exact h1; exact hx
theorem blkM_in {m : Mb} (h : lrM m) {n : Nat} (hn : n < 6) : inrB (blkM m n) := fun p hp => by
  unfold blkM
  rw [blk_at m.lv n p hp]
  exact h _ (by omega)
theorem lvsR_len {m : Mb} (h : lrM m) : ∀ n s, n ≤ 6 → dcR s → (lvsR m n s).1.length ≤ n * 4100
  | 0, s, _, _ => by simp [lvsR]
  | n + 1, s, hn, hs => by
    have i1 := lvsR_len h n s (by omega) hs
    have w := win_b (h ((5 - n) * 64) (by omega))
    have i2 := lvsR_len h n (setD s (5 - n - 3) (intAt m.lv ((5 - n) * 64))) (by omega) (dcR_set hs _ w)
    have d := hs (5 - n - 3)
    have k0 := bkc_len (blkM m (5 - n)) 0 (blkM_in h (by omega)) (by omega)
    have k1 := bkc_len (blkM m (5 - n)) 1 (blkM_in h (by omega)) (by omega)
    have g := sg_len (intAt m.lv ((5 - n) * 64) - dcS s (5 - n - 3)) (by omega)
    rw [lvsR]
    by_cases hf : flagAt (cdl m) (5 - n) = true
    · rw [if_pos hf]
      by_cases hk : m.k = 2
      · rw [if_pos hk]
        simp only [List.length_append]
        omega
      · rw [if_neg hk]
        simp only [List.length_append]
        omega
    · rw [if_neg hf]
      exact Nat.le_trans i1 (by omega)
theorem pC_dc (s : St) (w : Nat) (c : Cx) (mi q : Nat) (h : q < 3) : (pC s w c mi)[1 + q]? = some (.int .i64 (dcS s q)) := by
  have : q = 0 ∨ q = 1 ∨ q = 2 := by omega
  rcases this with rfl | rfl | rfl <;> rfl
theorem pC_sdc (s : St) (w : Nat) (c : Cx) (mi q : Nat) (x : Int) (h : q < 3) : (pC s w c mi).set (1 + q) (.int .i64 x) = pC (setD s q x) w c mi := by
  have : q = 0 ∨ q = 1 ∨ q = 2 := by omega
  rcases this with rfl | rfl | rfl <;> rfl
theorem mbc_cd (m : Mb) (hl : m.lv.length = 384) : List.take 6 (List.drop 18 (mbc m)) = fs (cdl m) := rfl
theorem mbc_l0 (m : Mb) (n : Nat) (hl : m.lv.length = 384) (hn : n < 6) : (mbc m)[24 + n * 64]? = some (.int .i64 (intAt m.lv (n * 64))) := by
  rw [show 24 + n * 64 = n * 64 + 24 by omega]
  exact is_get m.lv (n * 64) (by omega)
theorem mbc_bl (m : Mb) (n : Nat) : List.take 64 (List.drop (24 + n * 64) (mbc m)) = is (blkM m n) := by
  rw [show 24 + n * 64 = n * 64 + 24 by omega]
  show List.take 64 (List.drop (n * 64) (is m.lv)) = _
  rw [is_drop, is_take]; rfl
theorem bputP (H : Heap) (i j : Nat) (M : List Bool) (x0 x1 x3 : Blk) (c : Cx) (m : Mb) (s : St) (bl : List Int) (fr : Nat) (hi : i < H.length) (hj : j < H.length) (hne : i ≠ j) (hfr : fr ≤ 1) (hbl : bl.length = 64) (hr : inrB bl) (hl : M.length ≤ 800000000) :
    CallOk Try.prog 140 [.ptr i 0 0, .agg (is bl), .int .i64 (fr : Int)] (pH H i j M x0 x1 x3 c m s) (.int .i64 0) (pH H i j (M ++ bkc bl fr) x0 x1 x3 c m s) := by
  have := bput_ok i j M bl fr _ (two_Ki H i j (wA j M) (wB M) [x0, x1, mB m, x3, pB s i c (H.length + 2)] hi hne) (two_Kj H i j (wA j M) (wB M) [x0, x1, mB m, x3, pB s i c (H.length + 2)] hj) hne hfr hbl hr hl
  rw [two_app _ _ _ _ _ _ (by rw [two_len]; exact hi) (by rw [two_len]; exact hj), two_two _ _ _ _ _ _ _ hne] at this
  exact this

set_option maxHeartbeats 4000000 in
theorem levP (H : Heap) (i j : Nat) (M : List Bool) (x0 x1 x3 : Blk) (c : Cx) (m : Mb) (s : St) (hi : i < H.length) (hj : j < H.length) (hne : i ≠ j) (hl : M.length ≤ 700000000) (hm : lrM m) (hs : dcR s) (hml : m.lv.length = 384) :
    CallOk Try.prog 107 [.ptr (H.length + 4) 0 0] (pH H i j M x0 x1 x3 c m s) (.tup []) (pH H i j (M ++ (lvsR m 6 s).1) x0 x1 x3 c m (lvsR m 6 s).2) := by
  have h4 := fun M s => pH_4 H i j M x0 x1 x3 c m s
  have h2 := fun M s => pH_2 H i j M x0 x1 x3 c m s
  have ps := fun M s v hv hl => psP H i j M x0 x1 x3 c m s v hi hj hne hv hl
  have bp := fun M s bl fr h1 h2 h3 h4 => bputP H i j M x0 x1 x3 c m s bl fr hi hj hne h1 h2 h3 h4
  have k0 : (mbc m)[0]? = some (.int .i64 m.k) := rfl
  have hcd := mbc_cd m hml
  have hl0 := fun n hn => mbc_l0 m n hml hn
  have hbl := mbc_bl m
  have hlen := mbc_len m hml
  have hcl : (fs (cdl m)).length = 6 := rfl
  have hfg := fun n (hn : n < 6) => fs_get (cdl m) n hn
  have hTl := lvsR_len hm 6 s (by omega) hs
  have co := fun n hn K => cmp_ok n K hn
  have blen := fun n (hn : n < 6) => blk_len m.lv n hml hn
  generalize hS : (lvsR m 6 s).2 = S
  generalize hT : M ++ (lvsR m 6 s).1 = T
  have hTb : T.length ≤ 700030000 := by rw [← hT, List.length_append]; omega
  refine CallOk.body (F0 := [(0, .ptr (H.length + 4) 0 0)]) Try.func107 rfl Try.ntmps107 Try.results107 rfl (by kernel_rfl) rfl ?_
  (repeat refine PW.seq ?_); refine PW.rg rfl fun K hK => ?_; simp (maxSteps := 3000000) (disch := omega) only [go_sem, ↓reduceIte, reduceCtorEq, pappend, plen, h4, pB, pC, h2, mB, hcd, hlen]; refine hK _ _ ?_; clear hK K
  (repeat refine PW.seq ?_); refine PW.block (PW.loop ?_)
  suffices hl1 : ∀ (n : Nat) (M1 : List Bool) (s1 : St), n ≤ 6 → dcR s1 → M1 ++ (lvsR m (6 - n) s1).1 = T → (lvsR m (6 - n) s1).2 = S → PL Try.prog _ _ [(0, .ptr (H.length + 4) 0 0), (11, .agg (fs (cdl m))), (12, .int .i64 (n : Int))] (pH H i j M1 x0 x1 x3 c m s1) _ by
    exact PL.at [0, 11, 12] (hl1 0 M s (by omega) hs hT hS) rfl rfl
  intro n M1 s1 hn hs1 hT1 hS1
  induction hd : 6 - n using Nat.strongRecOn generalizing n M1 s1 with
  | _ d ih =>
    refine PL.round ?_; (repeat refine PW.seq ?_); refine PW.rg rfl fun K hK => ?_; simp (maxSteps := 3000000) (disch := omega) only [go_sem, ↓reduceIte, reduceCtorEq, pappend, plen]; refine hK _ _ ?_; clear hK K
    (repeat refine PW.seq ?_); refine PW.cond (t := _) rfl (fun h => ?_) (fun h => ?_)
    rotate_left
    · have h6 : n = 6 := by have := of_decide_eq_false h; omega
      subst h6
      refine PW.exit ?_
      simp only [Nat.sub_self, lvsR, List.append_nil] at hT1 hS1
      subst hT1 hS1
      exact Exists.intro _ (And.intro rfl Fin.now)
    · have h6 : n < 6 := by have := of_decide_eq_true h; omega
      have hM1 : M1.length ≤ 700030000 := by
        have : M1.length ≤ T.length := by rw [← hT1, List.length_append]; omega
        omega
      obtain ⟨d', hd'⟩ : ∃ d', 6 - n = d' + 1 := ⟨5 - n, by omega⟩
      have hn5 : 5 - d' = n := by omega
      have hdn : 6 - (n + 1) = d' := by omega
      rw [hd', lvsR, hn5] at hT1 hS1
      have hnx := ih (6 - (n + 1)) (by omega) (n + 1)
      have hgx := hfg n h6
      have hbln := hbl n
      have hbl64 := blen n h6
      change (blkM m n).length = 64 at hbl64
      have hin := blkM_in hm h6
      have hl0n := hl0 n h6
      have wl := win_b (hm (n * 64) (by omega))
      have dl := hs1 (n - 3)
      generalize intAt m.lv (n * 64) = x at *
      generalize blkM m n = bl at *
      have hcel := is_cell bl
      have hil : (is bl).length = 64 := by rw [is_len, hbl64]
      rw [hdn] at hnx
      refine PW.skip ?_; (repeat refine PW.seq ?_); refine PW.block ?_
      (repeat refine PW.seq ?_); refine PW.rg rfl fun K hK => ?_; simp (maxSteps := 3000000) (disch := omega) only [go_sem, ↓reduceIte, reduceCtorEq, pappend, plen, hgx, hcl]; refine hK _ _ ?_; clear hK K
      generalize flagAt (cdl m) n = fg at *
      (repeat refine PW.seq ?_); refine PW.rg rfl fun K hK => ?_; simp (maxSteps := 3000000) (disch := omega) only [go_sem, ↓reduceIte, reduceCtorEq, pappend, plen]; refine hK _ _ ?_; clear hK K
      cases fg with
      | false =>
        simp only [Bool.false_eq_true, if_false] at hT1 hS1
        (repeat refine PW.seq ?_); refine PW.cond (t := _) rfl (fun h => ?_) (fun h => ?_)
        rotate_left
        · cases h
        refine PW.exit ?_
        (repeat refine PW.seq ?_); refine PW.rg rfl fun K hK => ?_; simp (maxSteps := 3000000) (disch := omega) only [go_sem, ↓reduceIte, reduceCtorEq, pappend, plen]; refine hK _ _ ?_; clear hK K
        exact PL.at [0, 11, 12] (hnx M1 s1 (by omega) hs1 hT1 hS1 rfl) rfl rfl
      | true =>
        simp only [if_true] at hT1 hS1
        (repeat refine PW.seq ?_); refine PW.cond (t := _) rfl (fun h => ?_) (fun h => ?_)
        · cases h
        refine PW.skip ?_
        (repeat refine PW.seq ?_); refine PW.rg rfl fun K hK => ?_; simp (maxSteps := 3000000) (disch := omega) only [go_sem, ↓reduceIte, reduceCtorEq, pappend, plen, h4, pB, pC, h2, mB, k0]; refine hK _ _ ?_; clear hK K
        have pc8 : ∀ mi, (pC s1 i c mi)[8]? = some (.ptr i 0 0) := fun _ => rfl
        have pcl : ∀ mi, (pC s1 i c mi).length = 14 := fun _ => rfl
        have pc13 : ∀ mi, (pC s1 i c mi)[13]? = some (.ptr mi 0 0) := fun _ => rfl
        have hq3 : n - 3 < 3 := by omega
        have pdc := fun mi => pC_dc s1 i c mi (n - 3) hq3
        have psd := fun mi x => pC_sdc s1 i c mi (n - 3) x hq3
        have con := co n h6
        (repeat refine PW.seq ?_); refine PW.cond (t := _) rfl (fun h => ?_) (fun h => ?_)
        · have hk : m.k = 2 := by simpa using h
          rw [if_pos hk] at hT1 hS1
          rw [← List.append_assoc] at hT1
          have bp1 := bp M1 s1 bl 0 (by omega) hbl64 hin (by omega)
          (repeat refine PW.seq ?_); refine PW.drawt [] [] mix (by kernel_rfl) fun K hK => ?_; simp (maxSteps := 3000000) (disch := omega) only [go_sem, ↓reduceIte, reduceCtorEq, pappend, plen, h4, pB, pc8, pc13, h2, mB, hbln, hlen, hcel]
          refine VCj.now (bp1) rfl ?_; simp (maxSteps := 3000000) (disch := omega) only [go_sem, ↓reduceIte, reduceCtorEq, pappend, plen]; refine hK _ _ ?_; clear hK K
          refine PW.exit ?_
          (repeat refine PW.seq ?_); refine PW.rg rfl fun K hK => ?_; simp (maxSteps := 3000000) (disch := omega) only [go_sem, ↓reduceIte, reduceCtorEq, pappend, plen]; refine hK _ _ ?_; clear hK K
          exact PL.at [0, 11, 12] (hnx _ s1 (by omega) hs1 hT1 hS1 rfl) rfl rfl
        · have hk : ¬m.k = 2 := by simpa using h
          rw [if_neg hk] at hT1 hS1
          refine PW.skip ?_
          (repeat refine PW.seq ?_); refine PW.draw mix (by kernel_rfl) fun K hK => ?_; simp (maxSteps := 3000000) (disch := omega) only [go_sem, ↓reduceIte, reduceCtorEq, pappend, plen]
          refine VCy.call (con _) rfl ?_; simp (maxSteps := 3000000) (disch := omega) only [go_sem, ↓reduceIte, reduceCtorEq, pappend, plen, h4, pB]; refine hK _ _ ?_; clear hK K
          have hs4 := dcR_set hs1 (n - 3) wl
          have g1 := sg_len (x - dcS s1 (n - 3)) (by omega)
          have p1 := ps M1 s1 (x - dcS s1 (n - 3)) (by omega) (by omega)
          have p2 := bp (M1 ++ sg (x - dcS s1 (n - 3))) (setD s1 (n - 3) x) bl 1 (by omega) hbl64 hin (by rw [List.length_append]; omega)
          have hset := fun M B => pH_set H i j M x0 x1 x3 c m s1 B
          rw [← List.append_assoc, ← List.append_assoc] at hT1
          (repeat refine PW.seq ?_); refine PW.drawt [] [] mix (by kernel_rfl) fun K hK => ?_; simp (maxSteps := 3000000) (disch := omega) only [go_sem, ↓reduceIte, reduceCtorEq, pappend, plen, h4, pB, pc8, pc13, h2, mB, hl0n, hlen, pdc]
          refine VCj.now (p1) rfl ?_; simp (maxSteps := 3000000) (disch := omega) only [go_sem, ↓reduceIte, reduceCtorEq, pappend, plen]; refine hK _ _ ?_; clear hK K
          (repeat refine PW.seq ?_); refine PW.rg rfl fun K hK => ?_; simp (maxSteps := 3000000) (disch := omega) only [go_sem, ↓reduceIte, reduceCtorEq, pappend, plen, h4, pB, pc8, pc13, h2, mB, hl0n, hlen, pdc, hset, psd, pcl]; refine hK _ _ ?_; clear hK K
          refine PW.eq (H1 := pH H i j (M1 ++ sg (x - dcS s1 (n - 3))) x0 x1 x3 c m (setD s1 (n - 3) x)) rfl rfl ?_
          have pc8' : ∀ mi, (pC (setD s1 (n - 3) x) i c mi)[8]? = some (.ptr i 0 0) := fun _ => rfl
          have pc13' : ∀ mi, (pC (setD s1 (n - 3) x) i c mi)[13]? = some (.ptr mi 0 0) := fun _ => rfl
          (repeat refine PW.seq ?_); refine PW.drawt [] [] mix (by kernel_rfl) fun K hK => ?_; simp (maxSteps := 3000000) (disch := omega) only [go_sem, ↓reduceIte, reduceCtorEq, pappend, plen, h4, pB, pc8', pc13', h2, mB, hbln, hlen, hcel]
          refine VCj.now (p2) rfl ?_; simp (maxSteps := 3000000) (disch := omega) only [go_sem, ↓reduceIte, reduceCtorEq, pappend, plen]; refine hK _ _ ?_; clear hK K
          (repeat refine PW.seq ?_); refine PW.rg rfl fun K hK => ?_; simp (maxSteps := 3000000) (disch := omega) only [go_sem, ↓reduceIte, reduceCtorEq, pappend, plen]; refine hK _ _ ?_; clear hK K
          exact PL.at [0, 11, 12] (hnx _ _ (by omega) hs4 hT1 hS1 rfl) rfl (by rw [List.append_assoc])

end Go.Proofs.Ytnjnikafhbholaa.Sc
