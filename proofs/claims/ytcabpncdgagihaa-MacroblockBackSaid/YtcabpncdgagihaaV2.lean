/-
  THE STATEMENT MacroblockBackSaid, PROVED (from the contract 'law_back').
-/
import Derived.Test.YtcabpncdgagihaaV1
import Derived.Test.YtcabpncdgagihaaBz
import Derived.Test.YtcabpncdgagihaaBo
import Derived.Test.YtcabpncdgagihaaLm
namespace Go.Proofs.Ytcabpncdgagihaa.Sc
set_option linter.all false
set_option linter.unusedVariables false
set_option linter.unusedSimpArgs false
open Pm Ty Go.RowKit

theorem tflag_gen (L : Heap) (ti i : Nat) (p : List UInt8) (n a : Nat) (c : Cx) (s : St) (mi : Nat) (hl : Bool) (hT : L[ti]? = some (tB s i c mi hl)) (hR : L[i]? = some (rA p n a)) (ha : a ≤ n) (hn : n ≤ 8 * p.length) (hp : p.length ≤ 100000000) :
    CallOk Try.prog 94 [.ptr ti 0 0] L (rvF (tkF p n a)) (L.set i (rA p n (tkF p n a).at)) := by
  have hself := set_self hR
  cases hf : tkF p n a with
  | ok b a1 =>
    obtain ⟨rfl, h2, rfl⟩ := tkF_b hf
    have t := rtake_ok i p n a 1 _ hR (by omega) hn hp (by omega)
    rw [show vl p a 1 = ubit p a by simp [vl]] at t
    have e1 : ((ubit p a : Int) == 1) = decide (ubit p a = 1) := by
      rw [Bool.eq_iff_iff]; simp; omega
    simp only [rvF, Rr.at]
    generalize L.set i (rA p n (a + 1)) = Hz at *
    refine CallOk.body (F0 := [(0, .ptr ti 0 0)]) Try.func94 rfl Try.ntmps94 Try.results94 rfl (by kernel_rfl) rfl ?_
    (repeat refine PW.seq ?_); refine PW.rg rfl fun K hK => ?_; simp (maxSteps := 3000000) (disch := omega) only [go_sem, ↓reduceIte, reduceCtorEq, pappend, plen]; refine hK _ _ ?_; clear hK K
    (repeat refine PW.seq ?_); refine PW.rg rfl fun K hK => ?_; simp (maxSteps := 3000000) (disch := omega) only [go_sem, ↓reduceIte, reduceCtorEq, pappend, plen, hT, tB_v, tB_c, tC_w]; refine VCx.call (t) rfl ?_; simp (maxSteps := 3000000) (disch := omega) only [go_sem, ↓reduceIte, reduceCtorEq, pappend, plen, hT, tB_v, tB_c, tC_w]; refine hK _ _ ?_; clear hK K
    (repeat refine PW.seq ?_); refine PW.rg rfl fun K hK => ?_; simp (maxSteps := 3000000) (disch := omega) only [go_sem, ↓reduceIte, reduceCtorEq, pappend, plen, e1]; refine hK _ _ ?_; clear hK K
    exact PW.ret ⟨_, rfl, Fin.now⟩
  | er e a1 =>
    obtain ⟨rfl, rfl, h2⟩ := tkF_e hf
    have t := rtake_short i p n a1 1 _ hR (by omega) (by omega) (by omega) (by omega)
    simp only [rvF, Rr.at, hself]
    refine CallOk.body (F0 := [(0, .ptr ti 0 0)]) Try.func94 rfl Try.ntmps94 Try.results94 rfl (by kernel_rfl) rfl ?_
    (repeat refine PW.seq ?_); refine PW.rg rfl fun K hK => ?_; simp (maxSteps := 3000000) (disch := omega) only [go_sem, ↓reduceIte, reduceCtorEq, pappend, plen]; refine hK _ _ ?_; clear hK K
    (repeat refine PW.seq ?_); refine PW.rg rfl fun K hK => ?_; simp (maxSteps := 3000000) (disch := omega) only [go_sem, ↓reduceIte, reduceCtorEq, pappend, plen, hT, tB_v, tB_c, tC_w]; refine VCx.call (t) rfl ?_; simp (maxSteps := 3000000) (disch := omega) only [go_sem, ↓reduceIte, reduceCtorEq, pappend, plen, hT, tB_v, tB_c, tC_w]; refine hK _ _ ?_; clear hK K
    (repeat refine PW.seq ?_); refine PW.rg rfl fun K hK => ?_; simp (maxSteps := 3000000) (disch := omega) only [go_sem, ↓reduceIte, reduceCtorEq, pappend, plen]; refine hK _ _ ?_; clear hK K
    exact PW.ret ⟨_, rfl, Fin.now⟩
theorem mbc_sp (m : Mb) (b : Bool) : (mbc m).set 3 (.bool b) = mbc { m with fp := b } := rfl
theorem mbc_sd (m : Mb) (b : Bool) : (mbc m).set 4 (.bool b) = mbc { m with fd := b } := rfl
theorem mbc_k (m : Mb) : (mbc m)[0]? = some (.int .i64 m.k) := rfl
theorem mbc_us (m : Mb) : List.take 2 (List.drop 1 (mbc m)) = [.bool m.ua, .bool m.ub] := rfl
/-- Unchanged by vectors. -/
def SameU (m m' : Mb) : Prop := m'.lv = m.lv ∧ m'.ua = m.ua ∧ m'.ub = m.ub ∧ m'.fp = m.fp ∧ m'.k = m.k
theorem SameU.refl (m : Mb) : SameU m m := ⟨rfl, rfl, rfl, rfl, rfl⟩
theorem SameU.trans {a b c : Mb} (h : SameU a b) (k : SameU b c) : SameU a c := ⟨k.1.trans h.1, k.2.1.trans h.2.1, k.2.2.1.trans h.2.2.1, k.2.2.2.1.trans h.2.2.2.1, k.2.2.2.2.trans h.2.2.2.2⟩
theorem setSl_same (m : Mb) (d k : Nat) (x : Int) : SameU m (setSl m d k x) := by unfold setSl; split <;> split <;> exact ⟨rfl, rfl, rfl, rfl, rfl⟩
theorem setVm_same (m : Mb) (d k : Nat) (x y : Int) : SameU m (setVm m d k x y) := by unfold setVm; split <;> split <;> exact ⟨rfl, rfl, rfl, rfl, rfl⟩
theorem vrS_setV {s : St} (hs : vrS s) (d : Nat) {x y : Int} (hx : -63 ≤ x ∧ x ≤ 63) (hy : -63 ≤ y ∧ y ≤ 63) : vrS (setV s d x y) := fun e => by
  have h0 := hs 0
  have h1 := hs 1
  have he := hs e
  unfold setV
  split
  · unfold sXs sYs; dsimp only
    split
    · exact ⟨hx, hy⟩
    · exact h1
  · unfold sXs sYs; dsimp only
    split
    · exact h0
    · exact ⟨hx, hy⟩
theorem tkVc_b {c : Cx} {p : List UInt8} {n : Nat} {m : Mb} {s : St} {d k a : Nat} {y : Mb × St} {a1 : Nat} (h : tkVc c p n m s d k a = .ok y a1) (ha : a ≤ n) (hs : vrS s) : a1 ≤ n ∧ SameU m y.1 ∧ vrS y.2 := by
  unfold tkVc at h
  suffices hr : ∀ (m' : Mb) (a' : Nat), SameU m m' → a' ≤ n → ((tkD p n (sXs s d) 63 a').bind fun x a2 => (tkD p n (sYs s d) 63 a2).bind fun y a3 => .ok (setVm m' d k x y, setV s d x y) a3) = .ok y a1 → a1 ≤ n ∧ SameU m y.1 ∧ vrS y.2 by
    split at h
    · cases hf : tkF p n a with
      | er e a2 => rw [hf] at h; cases h
      | ok b a2 =>
        have := tkF_b hf
        rw [hf, Rr.bind_ok, Rr.bind_ok] at h
        exact hr _ _ (setSl_same m d k _) (by omega) h
    · rw [Rr.bind_ok] at h
      exact hr _ _ (.refl m) ha h
  intro m' a' hm' ha' h
  cases h1 : tkD p n (sXs s d) 63 a' with
  | er e a2 => rw [h1] at h; cases h
  | ok x a2 =>
    have b1 := tkD_b h1 ha'
    rw [h1, Rr.bind_ok] at h
    cases h2 : tkD p n (sYs s d) 63 a2 with
    | er e a3 => rw [h2] at h; cases h
    | ok z a3 =>
      have b2 := tkD_b h2 b1.2.2
      rw [h2, Rr.bind_ok] at h
      injection h with e1 e2
      subst e1 e2
      exact ⟨b2.2.2, hm'.trans (setVm_same _ _ _ _ _), vrS_setV hs d (by omega) (by omega)⟩
theorem tkVs_b {c : Cx} {p : List UInt8} {n d : Nat} : ∀ (r k : Nat) (m : Mb) (s : St) (a : Nat) {y : Mb × St} {a1 : Nat}, tkVs c p n d r k m s a = .ok y a1 → a ≤ n → vrS s → a1 ≤ n ∧ SameU m y.1 ∧ vrS y.2
  | 0, k, m, s, a, y, a1, h, ha, hs => by
    simp only [tkVs] at h
    injection h with e1 e2
    subst e1 e2
    exact ⟨ha, .refl m, hs⟩
  | r + 1, k, m, s, a, y, a1, h, ha, hs => by
    simp only [tkVs] at h
    cases h1 : tkVc c p n m s d k a with
    | er e a2 => rw [h1] at h; cases h
    | ok x a2 =>
      obtain ⟨b1, b2, b3⟩ := tkVc_b h1 ha hs
      rw [h1, Rr.bind_ok] at h
      obtain ⟨c1, c2, c3⟩ := tkVs_b r (k + 1) x.1 x.2 a2 h b1 b3
      exact ⟨c1, b2.trans c2, c3⟩
theorem tkDr_b {c : Cx} {p : List UInt8} {n d : Nat} {m : Mb} {s : St} {a : Nat} {y : Mb × St} {a1 : Nat} (h : tkDr c p n m s d a = .ok y a1) (ha : a ≤ n) (hs : vrS s) : a1 ≤ n ∧ SameU m y.1 ∧ vrS y.2 := by
  unfold tkDr at h
  split at h
  · exact tkVs_b _ _ _ _ _ h ha hs
  · injection h with e1 e2
    subst e1 e2
    exact ⟨ha, .refl m, hs⟩

section
variable (H : Heap) (i : Nat) (p : List UInt8) (n : Nat) (X : Heap) (c : Cx) (hl : Bool) (hi : i < H.length) (hX : X.length = 4) (hn : n ≤ 8 * p.length) (hp : p.length ≤ 100000000)
include hi hX hn hp
set_option maxHeartbeats 4000000 in
theorem tpred_ok (m : Mb) (s : St) (a : Nat) (hml : m.lv.length = 384) (hs : vrS s) (ha : a ≤ n) : CallEx Try.prog 56 [.ptr (H.length + 5) 0 0] (tG H i p n a X (mB m) (tB s i c (H.length + 4) hl)) (prtR H i p n X c hl (tkPr c p n m s a)) := by
  have g5 := fun a B4 B5 => tG_5 H i p n a X B4 B5 hX
  have g4 := fun a B4 B5 => tG_4 H i p n a X B4 B5 hX
  have s5 := fun a B4 B5 B => tG_s5 H i p n a X B4 B5 hX B
  have s4 := fun a B4 B5 B => tG_s4 H i p n a X B4 B5 hX B
  have gi := fun a B4 B5 => tG_i H i p n a X B4 B5 hi
  have si := fun a B4 B5 a' => tG_si H i p n a X B4 B5 hi a'
  have hlen := mbc_len m hml
  have bo := fun K => bcx_ok c K
  generalize hres : tkPr c p n m s a = res
  unfold tkPr at hres
  by_cases hk : m.k = 2
  rotate_left
  · rw [if_neg hk] at hres
    have d1 : decide (m.k = 2) = false := decide_eq_false hk
    have d2 : (m.k != 2) = true := by simp [hk]
    refine CallEx.body (F0 := [(0, .ptr (H.length + 5) 0 0)]) Try.func56 rfl Try.ntmps56 Try.results56 rfl (by kernel_rfl) rfl ?_
    (repeat refine PW.seq ?_); refine PW.rg rfl fun K hK => ?_; simp (maxSteps := 3000000) (disch := omega) only [go_sem, ↓reduceIte, reduceCtorEq, pappend, plen]; refine hK _ _ ?_; clear hK K
    (repeat refine PW.seq ?_); refine PW.rg rfl fun K hK => ?_; simp (maxSteps := 3000000) (disch := omega) only [go_sem, ↓reduceIte, reduceCtorEq, pappend, plen, g5, g4, tB_v, tB_c, tC_mi, mB_v, mB_c, mbc_k, d2]; refine hK _ _ ?_; clear hK K
    (repeat refine PW.seq ?_); refine PW.cond (t := _) rfl (fun h => ?_) (fun h => ?_)
    rotate_left
    · cases h
    (repeat refine PW.seq ?_); refine PW.rg rfl fun K hK => ?_; simp (maxSteps := 3000000) (disch := omega) only [go_sem, ↓reduceIte, reduceCtorEq, pappend, plen]; refine hK _ _ ?_; clear hK K
    refine PW.ret ⟨_, rfl, .inl ?_⟩
    rw [← hres]
    exact ⟨rfl, rfl⟩
  rw [if_pos hk] at hres
  have d2 : (m.k != 2) = false := by simp [hk]
  refine CallEx.body (F0 := [(0, .ptr (H.length + 5) 0 0)]) Try.func56 rfl Try.ntmps56 Try.results56 rfl (by kernel_rfl) rfl ?_
  (repeat refine PW.seq ?_); refine PW.rg rfl fun K hK => ?_; simp (maxSteps := 3000000) (disch := omega) only [go_sem, ↓reduceIte, reduceCtorEq, pappend, plen]; refine hK _ _ ?_; clear hK K
  (repeat refine PW.seq ?_); refine PW.rg rfl fun K hK => ?_; simp (maxSteps := 3000000) (disch := omega) only [go_sem, ↓reduceIte, reduceCtorEq, pappend, plen, g5, g4, tB_v, tB_c, tC_mi, mB_v, mB_c, mbc_k, d2]; refine hK _ _ ?_; clear hK K
  (repeat refine PW.seq ?_); refine PW.cond (t := _) rfl (fun h => ?_) (fun h => ?_)
  · cases h
  refine PW.skip ?_
  suffices hrest : ∀ (m : Mb) (a : Nat), m.lv.length = 384 → a ≤ n → tkDs c p n 2 0 m s a = res → PW Try.prog _ _ [(0, .ptr (H.length + 5) 0 0)] (tG H i p n a X (mB m) (tB s i c (H.length + 4) hl)) _ by
    (repeat refine PW.seq ?_); refine PW.rg rfl fun K hK => ?_; simp (maxSteps := 3000000) (disch := omega) only [go_sem, ↓reduceIte, reduceCtorEq, pappend, plen, g5, tB_v, tB_c, tC_c, tC_len, Nat.reduceAdd, Nat.reduceLeDiff]; refine VCx.call (bo _) rfl ?_; simp (maxSteps := 3000000) (disch := omega) only [go_sem, ↓reduceIte, reduceCtorEq, pappend, plen, g5, tB_v, tB_c, tC_c, tC_len, Nat.reduceAdd, Nat.reduceLeDiff]; refine hK _ _ ?_; clear hK K
    cases hbv : bcx c with
    | false =>
      rw [hbv, if_neg (by decide), Rr.bind_ok] at hres
      (repeat refine PW.seq ?_); refine PW.cond (t := _) rfl (fun h => ?_) (fun h => ?_)
      · cases h
      refine PW.skip ?_
      exact PW.at [0] (hrest m a hml ha hres) rfl rfl
    | true =>
      rw [hbv, if_pos rfl] at hres
      (repeat refine PW.seq ?_); refine PW.cond (t := _) rfl (fun h => ?_) (fun h => ?_)
      rotate_left
      · cases h
      (repeat refine PW.seq ?_); refine PW.drawi [i, H.length + 4] [(24, [1]), (25, [0]), (29, [1]), (30, [1])] [] [] mix (by kernel_rfl) (by simp <;> omega) fun K hK => ?_
      simp (maxSteps := 3000000) (disch := omega) only [go_sem, ↓reduceIte, reduceCtorEq, pappend, plen, g5, tB_v, tB_c, tC_mi]
      refine VCj.wr1 (gi a (mB m) (tB s i c (H.length + 4) hl)) (fun L hL hG => tflag_gen L (H.length + 5) i p n a c s (H.length + 4) hl ((hG.out _ (by simp; omega)).trans (g5 _ _ _)) hL ha hn hp) (by simp (maxSteps := 3000000) (disch := omega) only [go_sem, ↓reduceIte, reduceCtorEq, pappend, plen]) (.inl rfl) rfl ?_
      rw [si]
      cases hf : tkF p n a with
      | ok b a1 =>
        obtain ⟨rfl, h2, _⟩ := tkF_b hf
        rw [hf, Rr.bind_ok, Rr.bind_ok] at hres
        simp only [rvF, Rr.at]
        simp (maxSteps := 3000000) (disch := omega) only [go_sem, ↓reduceIte, reduceCtorEq, pappend, plen, g4, s4, mB_v, mB_c, mB_e, hlen, mbc_sp, mB_of]
        refine hK _ _ ?_; clear hK K
        (repeat refine PW.seq ?_); refine PW.rg rfl fun K hK => ?_; simp (maxSteps := 3000000) (disch := omega) only [go_sem, ↓reduceIte, reduceCtorEq, pappend, plen]; refine hK _ _ ?_; clear hK K
        (repeat refine PW.seq ?_); refine PW.cond (t := _) rfl (fun h => ?_) (fun h => ?_)
        · cases h
        refine PW.skip ?_
        exact PW.at [0] (hrest { m with fp := b } (a + 1) hml (by omega) hres) rfl rfl
      | er e a1 =>
        obtain ⟨rfl, rfl, h2⟩ := tkF_e hf
        rw [hf, Rr.bind_er, Rr.bind_er] at hres
        simp only [rvF, Rr.at]
        simp (maxSteps := 3000000) (disch := omega) only [go_sem, ↓reduceIte, reduceCtorEq, pappend, plen, g4, s4, mB_v, mB_c, mB_e, hlen, mbc_sp, mB_of]
        refine hK _ _ ?_; clear hK K
        (repeat refine PW.seq ?_); refine PW.rg rfl fun K hK => ?_; simp (maxSteps := 3000000) (disch := omega) only [go_sem, ↓reduceIte, reduceCtorEq, pappend, plen]; refine hK _ _ ?_; clear hK K
        (repeat refine PW.seq ?_); refine PW.cond (t := _) rfl (fun h => ?_) (fun h => ?_)
        rotate_left
        · cases h
        (repeat refine PW.seq ?_); refine PW.rg rfl fun K hK => ?_; simp (maxSteps := 3000000) (disch := omega) only [go_sem, ↓reduceIte, reduceCtorEq, pappend, plen]; refine hK _ _ ?_; clear hK K
        refine PW.ret ⟨_, rfl, .inl ?_⟩
        rw [← hres]
        exact ⟨rfl, a1, { m with fp := false }, s, ha, hml, rfl⟩
  clear hres ha hml hlen
  intro m a hml ha hres
  have ve := fun m1 s1 a1 => vecs_ok m1 (H.length + 4) _ (g4 a1 (mB m1) (tB s1 i c (H.length + 4) hl))
  have vc := fun m1 s1 d k a1 hd hk hml hs ha => tvec_ok H i p n X c hl hi hX hn hp m1 s1 d k a1 hd hk hml hs ha
  have hlen := mbc_len m hml
  (repeat refine PW.seq ?_); refine PW.rg rfl fun K hK => ?_; simp (maxSteps := 3000000) (disch := omega) only [go_sem, ↓reduceIte, reduceCtorEq, pappend, plen, g5, g4, tB_v, tB_c, tC_mi, mB_v, mB_c, mbc_us, hlen, Nat.reduceAdd, Nat.reduceLeDiff]; refine hK _ _ ?_; clear hK K
  (repeat refine PW.seq ?_); refine PW.block (PW.loop ?_)
  suffices hl1 : ∀ (d : Nat) (m1 : Mb) (s1 : St) (a1 : Nat), d ≤ 2 → SameU m m1 → vrS s1 → a1 ≤ n → tkDs c p n (2 - d) d m1 s1 a1 = res → PL Try.prog _ _ [(0, .ptr (H.length + 5) 0 0), (40, .agg [.bool m.ua, .bool m.ub]), (41, .int .i64 (d : Int))] (tG H i p n a1 X (mB m1) (tB s1 i c (H.length + 4) hl)) _ by
    exact PL.at [0, 40, 41] (hl1 0 m s a (by omega) (.refl m) hs ha hres) rfl rfl
  clear hres ha hlen hs
  intro d m1 s1 a1 hd hm1 hs1 ha1 hres
  induction hdd : 2 - d using Nat.strongRecOn generalizing d m1 s1 a1 with
  | _ dd ih =>
    refine PL.round ?_; (repeat refine PW.seq ?_); refine PW.rg rfl fun K hK => ?_; simp (maxSteps := 3000000) (disch := omega) only [go_sem, ↓reduceIte, reduceCtorEq, pappend, plen]; refine hK _ _ ?_; clear hK K
    (repeat refine PW.seq ?_); refine PW.cond (t := _) rfl (fun h => ?_) (fun h => ?_)
    rotate_left
    · have h6 : d = 2 := by have := of_decide_eq_false h; omega
      subst h6
      refine PW.exit ?_
      simp only [Nat.sub_self, tkDs] at hres
      (repeat refine PW.seq ?_); refine PW.rg rfl fun K hK => ?_; simp (maxSteps := 3000000) (disch := omega) only [go_sem, ↓reduceIte, reduceCtorEq, pappend, plen]; refine hK _ _ ?_; clear hK K
      refine PW.ret ⟨_, rfl, .inl ?_⟩
      rw [← hres]
      exact ⟨rfl, rfl⟩
    have h6 : d < 2 := by have := of_decide_eq_true h; omega
    obtain ⟨n', hn'⟩ : ∃ n', 2 - d = n' + 1 := ⟨1 - d, by omega⟩
    rw [hn', tkDs] at hres
    have hnx := fun m1 s1 a1 => ih (2 - (d + 1)) (by omega) (d + 1) m1 s1 a1 (by omega)
    rw [show 2 - (d + 1) = n' by omega] at hnx
    have hus : ([.bool m.ua, .bool m.ub] : List PV)[d]? = some (.bool (usd m1 d)) := by
      have : d = 0 ∨ d = 1 := by omega
      unfold usd
      rw [hm1.2.1, hm1.2.2.1]
      rcases this with rfl | rfl <;> rfl
    have hdr : tkDr c p n m1 s1 d a1 = if usd m1 d then tkVs c p n d (nvM m1) 0 m1 s1 a1 else .ok (m1, s1) a1 := rfl
    rw [hdr] at hres
    refine PW.skip ?_; (repeat refine PW.seq ?_); refine PW.block ?_
    (repeat refine PW.seq ?_); refine PW.rg rfl fun K hK => ?_; simp (maxSteps := 3000000) (disch := omega) only [go_sem, ↓reduceIte, reduceCtorEq, pappend, plen, hus]; refine hK _ _ ?_; clear hK K
    (repeat refine PW.seq ?_); refine PW.rg rfl fun K hK => ?_; simp (maxSteps := 3000000) (disch := omega) only [go_sem, ↓reduceIte, reduceCtorEq, pappend, plen]; refine hK _ _ ?_; clear hK K
    cases hu : usd m1 d with
    | false =>
      rw [hu, if_neg (by decide), Rr.bind_ok] at hres
      (repeat refine PW.seq ?_); refine PW.cond (t := _) rfl (fun h => ?_) (fun h => ?_)
      rotate_left
      · cases h
      refine PW.exit ?_
      (repeat refine PW.seq ?_); refine PW.rg rfl fun K hK => ?_; simp (maxSteps := 3000000) (disch := omega) only [go_sem, ↓reduceIte, reduceCtorEq, pappend, plen]; refine hK _ _ ?_; clear hK K
      exact PL.at [0, 40, 41] (hnx m1 s1 a1 hm1 hs1 ha1 hres rfl) rfl rfl
    | true =>
      rw [hu, if_pos rfl] at hres
      (repeat refine PW.seq ?_); refine PW.cond (t := _) rfl (fun h => ?_) (fun h => ?_)
      · cases h
      refine PW.skip ?_
      have vo := ve m1 s1 a1
      have env : (if m1.fp then (2 : Int) else 1) = ((nvM m : Nat) : Int) := by unfold nvM; rw [hm1.2.2.2.1]; cases m.fp <;> rfl
      have env2 : nvM m1 = nvM m := by unfold nvM; rw [hm1.2.2.2.1]
      rw [env] at vo
      rw [env2] at hres
      (repeat refine PW.seq ?_); refine PW.rg rfl fun K hK => ?_; simp (maxSteps := 3000000) (disch := omega) only [go_sem, ↓reduceIte, reduceCtorEq, pappend, plen, g5, tB_v, tB_c, tC_mi]; refine VCx.call (vo) rfl ?_; simp (maxSteps := 3000000) (disch := omega) only [go_sem, ↓reduceIte, reduceCtorEq, pappend, plen, g5, tB_v, tB_c, tC_mi]; refine hK _ _ ?_; clear hK K
      (repeat refine PW.seq ?_); refine PW.block (PW.loop ?_)
      suffices hl2 : ∀ (k : Nat) (m2 : Mb) (s2 : St) (a2 : Nat), k ≤ nvM m → SameU m m2 → vrS s2 → a2 ≤ n → ((tkVs c p n d (nvM m - k) k m2 s2 a2).bind fun x a1 => tkDs c p n n' (d + 1) x.1 x.2 a1) = res →
          PL Try.prog _ _ [(0, .ptr (H.length + 5) 0 0), (3, .int .i64 (d : Int)), (40, .agg [.bool m.ua, .bool m.ub]), (41, .int .i64 (d : Int)), (51, .int .i64 (nvM m : Int)), (52, .int .i64 (k : Int))] (tG H i p n a2 X (mB m2) (tB s2 i c (H.length + 4) hl)) _ by
        exact PL.at [0, 3, 40, 41, 51, 52] (hl2 0 m1 s1 a1 (by omega) hm1 hs1 ha1 hres) rfl rfl
      clear ih hres hs1 ha1 vo hdr hu hus env env2 hm1
      have hnv := nvM_b m
      intro k m2 s2 a2 hk2 hm2 hs2 ha2 hres
      induction hkk : nvM m - k using Nat.strongRecOn generalizing k m2 s2 a2 with
      | _ kk ih2 =>
        refine PL.round ?_; (repeat refine PW.seq ?_); refine PW.rg rfl fun K hK => ?_; simp (maxSteps := 3000000) (disch := omega) only [go_sem, ↓reduceIte, reduceCtorEq, pappend, plen]; refine hK _ _ ?_; clear hK K
        (repeat refine PW.seq ?_); refine PW.cond (t := _) rfl (fun h => ?_) (fun h => ?_)
        rotate_left
        · have h7 : k = nvM m := by have := of_decide_eq_false h; omega
          subst h7
          refine PW.exit ?_
          simp only [Nat.sub_self, tkVs, Rr.bind_ok] at hres
          (repeat refine PW.seq ?_); refine PW.rg rfl fun K hK => ?_; simp (maxSteps := 3000000) (disch := omega) only [go_sem, ↓reduceIte, reduceCtorEq, pappend, plen]; refine hK _ _ ?_; clear hK K
          exact PL.at [0, 40, 41] (hnx m2 s2 a2 hm2 hs2 ha2 hres rfl) rfl rfl
        have h7 : k < nvM m := by have := of_decide_eq_true h; omega
        obtain ⟨n2, hn2⟩ : ∃ n2, nvM m - k = n2 + 1 := ⟨nvM m - k - 1, by omega⟩
        rw [hn2, tkVs, Rr.bind_bind] at hres
        have hnx2 := fun m1 s1 a1 => ih2 (nvM m - (k + 1)) (by omega) (k + 1) m1 s1 a1 (by omega)
        rw [show nvM m - (k + 1) = n2 by omega] at hnx2
        clear ih2
        have v1 := vc m2 s2 d k a2 h6 (by omega) (by rw [hm2.1]; exact hml) hs2 ha2
        refine PW.skip ?_; (repeat refine PW.seq ?_); refine PW.block ?_
        (repeat refine PW.seq ?_); refine PW.rg rfl fun K hK => ?_; simp (maxSteps := 3000000) (disch := omega) only [go_sem, ↓reduceIte, reduceCtorEq, pappend, plen]; refine hK _ _ ?_; clear hK K
        (repeat refine PW.seq ?_); refine PW.rg rfl fun K hK => ?_; simp (maxSteps := 3000000) (disch := omega) only [go_sem, ↓reduceIte, reduceCtorEq, pappend, plen]
        refine VCx.callR v1 rfl fun v H' hR => ?_
        cases hv : tkVc c p n m2 s2 d k a2 with
        | er e a3 =>
          rw [hv] at hR hres
          obtain ⟨rfl, a4, m4, s4', h1, h2, rfl⟩ := hR
          rw [Rr.bind_er] at hres
          have d0 : ((e : Int) + 1 != 0) = true := by simp; omega
          simp (maxSteps := 3000000) (disch := omega) only [go_sem, ↓reduceIte, reduceCtorEq, pappend, plen, ecd]; refine hK _ _ ?_; clear hK K
          (repeat refine PW.seq ?_); refine PW.rg rfl fun K hK => ?_; simp (maxSteps := 3000000) (disch := omega) only [go_sem, ↓reduceIte, reduceCtorEq, pappend, plen, d0]; refine hK _ _ ?_; clear hK K
          (repeat refine PW.seq ?_); refine PW.cond (t := _) rfl (fun h => ?_) (fun h => ?_)
          rotate_left
          · cases h
          (repeat refine PW.seq ?_); refine PW.rg rfl fun K hK => ?_; simp (maxSteps := 3000000) (disch := omega) only [go_sem, ↓reduceIte, reduceCtorEq, pappend, plen]; refine hK _ _ ?_; clear hK K
          refine PW.ret ⟨_, rfl, .inl ?_⟩
          rw [← hres]
          exact ⟨rfl, a4, m4, s4', h1, h2, rfl⟩
        | ok y a3 =>
          obtain ⟨b1, b2, b3⟩ := tkVc_b hv ha2 hs2
          rw [hv] at hR hres
          obtain ⟨rfl, rfl⟩ := hR
          rw [Rr.bind_ok] at hres
          simp (maxSteps := 3000000) (disch := omega) only [go_sem, ↓reduceIte, reduceCtorEq, pappend, plen]; refine hK _ _ ?_; clear hK K
          (repeat refine PW.seq ?_); refine PW.rg rfl fun K hK => ?_; simp (maxSteps := 3000000) (disch := omega) only [go_sem, ↓reduceIte, reduceCtorEq, pappend, plen]; refine hK _ _ ?_; clear hK K
          (repeat refine PW.seq ?_); refine PW.cond (t := _) rfl (fun h => ?_) (fun h => ?_)
          · cases h
          refine PW.skip ?_
          (repeat refine PW.seq ?_); refine PW.rg rfl fun K hK => ?_; simp (maxSteps := 3000000) (disch := omega) only [go_sem, ↓reduceIte, reduceCtorEq, pappend, plen]; refine hK _ _ ?_; clear hK K
          exact PL.at [0, 3, 40, 41, 51, 52] (hnx2 y.1 y.2 a3 (hm2.trans b2) b3 b1 hres rfl) rfl rfl
end

end Go.Proofs.Ytcabpncdgagihaa.Sc

namespace Go.Proofs.Ytcabpncdgagihaa.Sc
set_option linter.all false
set_option linter.unusedVariables false
set_option linter.unusedSimpArgs false
open Pm Ty Go.RowKit

theorem mbc_sl (m : Mb) (x : Int) : (mbc m).set 17 (.int .i64 x) = mbc { m with dl := x } := rfl
theorem mbc_l (m : Mb) : (mbc m)[17]? = some (.int .i64 m.dl) := rfl
theorem tC_q (s : St) (w : Nat) (c : Cx) (mi : Nat) (hl : Bool) : (tC s w c mi hl)[0]? = some (.int .i64 s.q) := rfl
theorem tC_sq (s : St) (w : Nat) (c : Cx) (mi : Nat) (hl : Bool) (x : Int) : (tC s w c mi hl).set 0 (.int .i64 x) = tC { s with q := x } w c mi hl := rfl
theorem mbc_sc (m : Mb) (n : Nat) (b : Bool) (hn : n < 6) : (mbc m).set (18 + n) (.bool b) = mbc (setCd m n b) := by
  have : n = 0 ∨ n = 1 ∨ n = 2 ∨ n = 3 ∨ n = 4 ∨ n = 5 := by omega
  rcases this with rfl | rfl | rfl | rfl | rfl | rfl <;> rfl
theorem setCd_lv (m : Mb) (n : Nat) (b : Bool) : (setCd m n b).lv = m.lv := by
  unfold setCd
  repeat' split
  all_goals rfl
theorem mbc_6 (m : Mb) : List.take 6 (List.drop 18 (mbc m)) = fs (cdl m) := rfl
theorem eqB6z (a b c d e f : Bool) : peqG Try.prog .eql 45 (.agg [.bool a, .bool b, .bool c, .bool d, .bool e, .bool f]) (.agg [.bool false, .bool false, .bool false, .bool false, .bool false, .bool false]) = some (.bool ((a == false) && ((b == false) && ((c == false) && ((d == false) && ((e == false) && ((f == false) && true))))))) := by kernel_rfl
theorem eqB6m (m : Mb) : peqG Try.prog .eql 45 (.agg (fs (cdl m))) (.agg [.bool false, .bool false, .bool false, .bool false, .bool false, .bool false]) = some (.bool !anyC m) := by
  have := eqB6z m.ca m.cb m.cc m.cd m.ce m.cf
  rw [show fs (cdl m) = [.bool m.ca, .bool m.cb, .bool m.cc, .bool m.cd, .bool m.ce, .bool m.cf] from rfl, this]
  unfold anyC
  cases m.ca <;> cases m.cb <;> cases m.cc <;> cases m.cd <;> cases m.ce <;> cases m.cf <;> rfl

section
variable (H : Heap) (i : Nat) (p : List UInt8) (n : Nat) (X : Heap) (c : Cx) (hl : Bool) (hi : i < H.length) (hX : X.length = 4) (hn : n ≤ 8 * p.length) (hp : p.length ≤ 100000000)
include hi hX hn hp
set_option maxHeartbeats 4000000 in
theorem tchg_ok (m : Mb) (s : St) (a : Nat) (hml : m.lv.length = 384) (hq : 1 ≤ s.q ∧ s.q ≤ 31) (ha : a ≤ n) : CallEx Try.prog 57 [.ptr (H.length + 5) 0 0] (tG H i p n a X (mB m) (tB s i c (H.length + 4) hl)) (prtR H i p n X c hl (tkCh c p n hl m s a)) := by
  have g5 := fun a B4 B5 => tG_5 H i p n a X B4 B5 hX
  have g4 := fun a B4 B5 => tG_4 H i p n a X B4 B5 hX
  have s5 := fun a B4 B5 B => tG_s5 H i p n a X B4 B5 hX B
  have s4 := fun a B4 B5 B => tG_s4 H i p n a X B4 B5 hX B
  have gi := fun a B4 B5 => tG_i H i p n a X B4 B5 hi
  have si := fun a B4 B5 a' => tG_si H i p n a X B4 B5 hi a'
  have hlen := mbc_len m hml
  have bo := fun K => bcx_ok c K
  have qo := fun x K => vq_ok x K
  generalize hres : tkCh c p n hl m s a = res
  unfold tkCh at hres
  refine CallEx.body (F0 := [(0, .ptr (H.length + 5) 0 0)]) Try.func57 rfl Try.ntmps57 Try.results57 rfl (by kernel_rfl) rfl ?_
  (repeat refine PW.seq ?_); refine PW.rg rfl fun K hK => ?_; simp (maxSteps := 3000000) (disch := omega) only [go_sem, ↓reduceIte, reduceCtorEq, pappend, plen]; refine hK _ _ ?_; clear hK K
  cases hhl : hl with
  | false =>
    subst hhl
    rw [if_neg (by decide)] at hres
    (repeat refine PW.seq ?_); refine PW.rg rfl fun K hK => ?_; simp (maxSteps := 3000000) (disch := omega) only [go_sem, ↓reduceIte, reduceCtorEq, pappend, plen, g5, tB_v, tB_c, tC_hl]; refine hK _ _ ?_; clear hK K
    (repeat refine PW.seq ?_); refine PW.cond (t := _) rfl (fun h => ?_) (fun h => ?_)
    rotate_left
    · cases h
    (repeat refine PW.seq ?_); refine PW.rg rfl fun K hK => ?_; simp (maxSteps := 3000000) (disch := omega) only [go_sem, ↓reduceIte, reduceCtorEq, pappend, plen]; refine hK _ _ ?_; clear hK K
    refine PW.ret ⟨_, rfl, .inl ?_⟩
    rw [← hres]
    exact ⟨rfl, rfl⟩
  | true =>
    subst hhl
    rw [if_pos rfl] at hres
    (repeat refine PW.seq ?_); refine PW.rg rfl fun K hK => ?_; simp (maxSteps := 3000000) (disch := omega) only [go_sem, ↓reduceIte, reduceCtorEq, pappend, plen, g5, tB_v, tB_c, tC_hl]; refine hK _ _ ?_; clear hK K
    (repeat refine PW.seq ?_); refine PW.cond (t := _) rfl (fun h => ?_) (fun h => ?_)
    · cases h
    refine PW.skip ?_
    suffices hrest : ∀ (m : Mb) (a : Nat), m.lv.length = 384 → a ≤ n → ((tkS p n a).bind fun d a2 => if vqB (s.q + d) then .ok ({ m with dl := d }, { s with q := s.q + d }) a2 else .er 2 a2) = res → PW Try.prog _ _ [(0, .ptr (H.length + 5) 0 0)] (tG H i p n a X (mB m) (tB s i c (H.length + 4) true)) _ by
      (repeat refine PW.seq ?_); refine PW.rg rfl fun K hK => ?_; simp (maxSteps := 3000000) (disch := omega) only [go_sem, ↓reduceIte, reduceCtorEq, pappend, plen, g5, tB_v, tB_c, tC_c, tC_len, Nat.reduceAdd, Nat.reduceLeDiff]; refine VCx.call (bo _) rfl ?_; simp (maxSteps := 3000000) (disch := omega) only [go_sem, ↓reduceIte, reduceCtorEq, pappend, plen, g5, tB_v, tB_c, tC_c, tC_len, Nat.reduceAdd, Nat.reduceLeDiff]; refine hK _ _ ?_; clear hK K
      cases hbv : bcx c with
      | false =>
        rw [hbv, if_neg (by decide), Rr.bind_ok] at hres
        (repeat refine PW.seq ?_); refine PW.cond (t := _) rfl (fun h => ?_) (fun h => ?_)
        · cases h
        refine PW.skip ?_
        exact PW.at [0] (hrest m a hml ha hres) rfl rfl
      | true =>
        rw [hbv, if_pos rfl] at hres
        (repeat refine PW.seq ?_); refine PW.cond (t := _) rfl (fun h => ?_) (fun h => ?_)
        rotate_left
        · cases h
        (repeat refine PW.seq ?_); refine PW.drawi [i, H.length + 4] [(17, [1]), (18, [0]), (22, [1]), (23, [1])] [] [] mix (by kernel_rfl) (by simp <;> omega) fun K hK => ?_
        simp (maxSteps := 3000000) (disch := omega) only [go_sem, ↓reduceIte, reduceCtorEq, pappend, plen, g5, tB_v, tB_c, tC_mi]
        refine VCj.wr1 (gi a (mB m) (tB s i c (H.length + 4) true)) (fun L hL hG => tflag_gen L (H.length + 5) i p n a c s (H.length + 4) true ((hG.out _ (by simp; omega)).trans (g5 _ _ _)) hL ha hn hp) (by simp (maxSteps := 3000000) (disch := omega) only [go_sem, ↓reduceIte, reduceCtorEq, pappend, plen]) (.inl rfl) rfl ?_
        rw [si]
        cases hf : tkF p n a with
        | ok b a1 =>
          obtain ⟨rfl, h2, _⟩ := tkF_b hf
          rw [hf, Rr.bind_ok, Rr.bind_ok] at hres
          simp only [rvF, Rr.at]
          simp (maxSteps := 3000000) (disch := omega) only [go_sem, ↓reduceIte, reduceCtorEq, pappend, plen, g4, s4, mB_v, mB_c, mB_e, hlen, mbc_sd, mB_of]
          refine hK _ _ ?_; clear hK K
          (repeat refine PW.seq ?_); refine PW.rg rfl fun K hK => ?_; simp (maxSteps := 3000000) (disch := omega) only [go_sem, ↓reduceIte, reduceCtorEq, pappend, plen]; refine hK _ _ ?_; clear hK K
          (repeat refine PW.seq ?_); refine PW.cond (t := _) rfl (fun h => ?_) (fun h => ?_)
          · cases h
          refine PW.skip ?_
          exact PW.at [0] (hrest { m with fd := b } (a + 1) hml (by omega) hres) rfl rfl
        | er e a1 =>
          obtain ⟨rfl, rfl, h2⟩ := tkF_e hf
          rw [hf, Rr.bind_er, Rr.bind_er] at hres
          simp only [rvF, Rr.at]
          simp (maxSteps := 3000000) (disch := omega) only [go_sem, ↓reduceIte, reduceCtorEq, pappend, plen, g4, s4, mB_v, mB_c, mB_e, hlen, mbc_sd, mB_of]
          refine hK _ _ ?_; clear hK K
          (repeat refine PW.seq ?_); refine PW.rg rfl fun K hK => ?_; simp (maxSteps := 3000000) (disch := omega) only [go_sem, ↓reduceIte, reduceCtorEq, pappend, plen]; refine hK _ _ ?_; clear hK K
          (repeat refine PW.seq ?_); refine PW.cond (t := _) rfl (fun h => ?_) (fun h => ?_)
          rotate_left
          · cases h
          (repeat refine PW.seq ?_); refine PW.rg rfl fun K hK => ?_; simp (maxSteps := 3000000) (disch := omega) only [go_sem, ↓reduceIte, reduceCtorEq, pappend, plen]; refine hK _ _ ?_; clear hK K
          refine PW.ret ⟨_, rfl, .inl ?_⟩
          rw [← hres]
          exact ⟨rfl, a1, { m with fd := false }, s, ha, hml, rfl⟩
    clear hres ha hml hlen
    intro m a hml ha hres
    have hlen := mbc_len m hml
    (repeat refine PW.seq ?_); refine PW.drawi [i, H.length + 4] [(31, [1]), (35, [0]), (39, [1]), (40, [1])] [] [] mix (by kernel_rfl) (by simp <;> omega) fun K hK => ?_
    simp (maxSteps := 3000000) (disch := omega) only [go_sem, ↓reduceIte, reduceCtorEq, pappend, plen, g5, tB_v, tB_c, tC_mi, tC_w]
    refine VCj.wr1 (gi a (mB m) (tB s i c (H.length + 4) true)) (fun L hL hG => tks_ok i p n a L hL ha hn hp) (by simp (maxSteps := 3000000) (disch := omega) only [go_sem, ↓reduceIte, reduceCtorEq, pappend, plen]) (.inl rfl) rfl ?_
    rw [si]
    cases h1 : tkS p n a with
    | er e a1 =>
      have he := tkS_e h1
      rw [h1, Rr.bind_er] at hres
      simp only [rvS, Rr.at]
      have d0 : ((e : Int) + 1 != 0) = true := by simp; omega
      simp (maxSteps := 3000000) (disch := omega) only [go_sem, ↓reduceIte, reduceCtorEq, pappend, plen, g4, s4, mB_v, mB_c, mB_e, hlen, mbc_sl, mB_of]
      refine hK _ _ ?_; clear hK K
      (repeat refine PW.seq ?_); refine PW.rg rfl fun K hK => ?_; simp (maxSteps := 3000000) (disch := omega) only [go_sem, ↓reduceIte, reduceCtorEq, pappend, plen, d0]; refine hK _ _ ?_; clear hK K
      (repeat refine PW.seq ?_); refine PW.cond (t := _) rfl (fun h => ?_) (fun h => ?_)
      rotate_left
      · cases h
      (repeat refine PW.seq ?_); refine PW.rg rfl fun K hK => ?_; simp (maxSteps := 3000000) (disch := omega) only [go_sem, ↓reduceIte, reduceCtorEq, pappend, plen]; refine hK _ _ ?_; clear hK K
      refine PW.ret ⟨_, rfl, .inl ?_⟩
      rw [← hres]
      exact ⟨rfl, a1, { m with dl := 0 }, s, by omega, hml, rfl⟩
    | ok d a1 =>
      have hb := tkS_b h1 ha
      rw [h1, Rr.bind_ok] at hres
      simp only [rvS, Rr.at]
      simp (maxSteps := 3000000) (disch := omega) only [go_sem, ↓reduceIte, reduceCtorEq, pappend, plen, g4, s4, mB_v, mB_c, mB_e, hlen, mbc_sl, mB_of]
      refine hK _ _ ?_; clear hK K
      (repeat refine PW.seq ?_); refine PW.rg rfl fun K hK => ?_; simp (maxSteps := 3000000) (disch := omega) only [go_sem, ↓reduceIte, reduceCtorEq, pappend, plen]; refine hK _ _ ?_; clear hK K
      (repeat refine PW.seq ?_); refine PW.cond (t := _) rfl (fun h => ?_) (fun h => ?_)
      · cases h
      refine PW.skip ?_
      (repeat refine PW.seq ?_); refine PW.drawt [] [] mix (by kernel_rfl) fun K hK => ?_; simp (maxSteps := 3000000) (disch := omega) only [go_sem, ↓reduceIte, reduceCtorEq, pappend, plen, g5, g4, s5, tB_v, tB_c, tB_e, tC_mi, tC_q, tC_sq, tC_len, tB_of, mB_v, mB_c, mbc_l]; refine hK _ _ ?_; clear hK K
      have qo1 := fun K => qo (s.q + d) K
      cases hv : vqB (s.q + d) with
      | false =>
        rw [hv] at qo1 hres
        rw [if_neg (by decide)] at hres
        (repeat refine PW.seq ?_); refine PW.rg rfl fun K hK => ?_; simp (maxSteps := 3000000) (disch := omega) only [go_sem, ↓reduceIte, reduceCtorEq, pappend, plen, g5, tB_v, tB_c, tC_q]
        refine VCx.call (qo1 _) rfl ?_; simp (maxSteps := 3000000) (disch := omega) only [go_sem, ↓reduceIte, reduceCtorEq, pappend, plen]; refine hK _ _ ?_; clear hK K
        (repeat refine PW.seq ?_); refine PW.cond (t := _) rfl (fun h => ?_) (fun h => ?_)
        rotate_left
        · cases h
        (repeat refine PW.seq ?_); refine PW.rg rfl fun K hK => ?_; simp (maxSteps := 3000000) (disch := omega) only [go_sem, ↓reduceIte, reduceCtorEq, pappend, plen]; refine hK _ _ ?_; clear hK K
        refine PW.ret ⟨_, rfl, .inl ?_⟩
        rw [← hres]
        exact ⟨rfl, a1, { m with dl := d }, { s with q := s.q + d }, hb.2.2, hml, rfl⟩
      | true =>
        rw [hv] at qo1 hres
        rw [if_pos rfl] at hres
        (repeat refine PW.seq ?_); refine PW.rg rfl fun K hK => ?_; simp (maxSteps := 3000000) (disch := omega) only [go_sem, ↓reduceIte, reduceCtorEq, pappend, plen, g5, tB_v, tB_c, tC_q]
        refine VCx.call (qo1 _) rfl ?_; simp (maxSteps := 3000000) (disch := omega) only [go_sem, ↓reduceIte, reduceCtorEq, pappend, plen]; refine hK _ _ ?_; clear hK K
        (repeat refine PW.seq ?_); refine PW.cond (t := _) rfl (fun h => ?_) (fun h => ?_)
        · cases h
        refine PW.skip ?_
        (repeat refine PW.seq ?_); refine PW.rg rfl fun K hK => ?_; simp (maxSteps := 3000000) (disch := omega) only [go_sem, ↓reduceIte, reduceCtorEq, pappend, plen]; refine hK _ _ ?_; clear hK K
        refine PW.ret ⟨_, rfl, .inl ?_⟩
        rw [← hres]
        exact ⟨rfl, rfl⟩

set_option maxHeartbeats 4000000 in
theorem tcod_ok (m : Mb) (s : St) (a : Nat) (hml : m.lv.length = 384) (ha : a ≤ n) : CallEx Try.prog 58 [.ptr (H.length + 5) 0 0] (tG H i p n a X (mB m) (tB s i c (H.length + 4) hl)) (prtR H i p n X c hl ((tkCo p n hl m a).bind fun m a => .ok (m, s) a)) := by
  have g5 := fun a B4 B5 => tG_5 H i p n a X B4 B5 hX
  have g4 := fun a B4 B5 => tG_4 H i p n a X B4 B5 hX
  have s5 := fun a B4 B5 B => tG_s5 H i p n a X B4 B5 hX B
  have s4 := fun a B4 B5 B => tG_s4 H i p n a X B4 B5 hX B
  have gi := fun a B4 B5 => tG_i H i p n a X B4 B5 hi
  have si := fun a B4 B5 a' => tG_si H i p n a X B4 B5 hi a'
  have hlen := fun (m : Mb) (h : m.lv.length = 384) => mbc_len m h
  generalize hres : (tkCo p n hl m a).bind (fun m a => Rr.ok (m, s) a) = res
  unfold tkCo at hres
  refine CallEx.body (F0 := [(0, .ptr (H.length + 5) 0 0)]) Try.func58 rfl Try.ntmps58 Try.results58 rfl (by kernel_rfl) rfl ?_
  (repeat refine PW.seq ?_); refine PW.rg rfl fun K hK => ?_; simp (maxSteps := 3000000) (disch := omega) only [go_sem, ↓reduceIte, reduceCtorEq, pappend, plen]; refine hK _ _ ?_; clear hK K
  by_cases hk : m.k = 2
  rotate_left
  · have d2 : (m.k != 2) = true := by simp [hk]
    rw [decide_eq_false hk, Bool.false_and, if_neg (by decide), Rr.bind_ok] at hres
    (repeat refine PW.seq ?_); refine PW.rg rfl fun K hK => ?_; simp (maxSteps := 3000000) (disch := omega) only [go_sem, ↓reduceIte, reduceCtorEq, pappend, plen, g5, g4, tB_v, tB_c, tC_mi, tC_hl, mB_v, mB_c, mbc_k, d2]; refine hK _ _ ?_; clear hK K
    (repeat refine PW.seq ?_); refine PW.cond (t := _) rfl (fun h => ?_) (fun h => ?_)
    rotate_left
    · cases h
    (repeat refine PW.seq ?_); refine PW.rg rfl fun K hK => ?_; simp (maxSteps := 3000000) (disch := omega) only [go_sem, ↓reduceIte, reduceCtorEq, pappend, plen]; refine hK _ _ ?_; clear hK K
    refine PW.ret ⟨_, rfl, .inl ?_⟩
    rw [← hres]
    exact ⟨rfl, rfl⟩
  have d2 : (m.k != 2) = false := by simp [hk]
  rw [decide_eq_true hk, Bool.true_and] at hres
  cases hhl : hl with
  | false =>
    subst hhl
    rw [if_neg (by decide), Rr.bind_ok] at hres
    (repeat refine PW.seq ?_); refine PW.rg rfl fun K hK => ?_; simp (maxSteps := 3000000) (disch := omega) only [go_sem, ↓reduceIte, reduceCtorEq, pappend, plen, g5, g4, tB_v, tB_c, tC_mi, tC_hl, mB_v, mB_c, mbc_k, d2]; refine hK _ _ ?_; clear hK K
    (repeat refine PW.seq ?_); refine PW.cond (t := _) rfl (fun h => ?_) (fun h => ?_)
    rotate_left
    · cases h
    (repeat refine PW.seq ?_); refine PW.rg rfl fun K hK => ?_; simp (maxSteps := 3000000) (disch := omega) only [go_sem, ↓reduceIte, reduceCtorEq, pappend, plen]; refine hK _ _ ?_; clear hK K
    refine PW.ret ⟨_, rfl, .inl ?_⟩
    rw [← hres]
    exact ⟨rfl, rfl⟩
  | true =>
    subst hhl
    rw [if_pos rfl] at hres
    (repeat refine PW.seq ?_); refine PW.rg rfl fun K hK => ?_; simp (maxSteps := 3000000) (disch := omega) only [go_sem, ↓reduceIte, reduceCtorEq, pappend, plen, g5, g4, tB_v, tB_c, tC_mi, tC_hl, mB_v, mB_c, mbc_k, d2]; refine hK _ _ ?_; clear hK K
    (repeat refine PW.seq ?_); refine PW.cond (t := _) rfl (fun h => ?_) (fun h => ?_)
    · cases h
    refine PW.skip ?_
    (repeat refine PW.seq ?_); refine PW.rg rfl fun K hK => ?_; simp (maxSteps := 3000000) (disch := omega) only [go_sem, ↓reduceIte, reduceCtorEq, pappend, plen]; refine hK _ _ ?_; clear hK K
    (repeat refine PW.seq ?_); refine PW.block (PW.loop ?_)
    suffices hl1 : ∀ (k : Nat) (m1 : Mb) (a1 : Nat), k ≤ 6 → m1.lv.length = 384 → a1 ≤ n → ((tkCf p n (6 - k) m1 a1).bind fun m a => Rr.ok (m, s) a) = res → PL Try.prog _ _ [(0, .ptr (H.length + 5) 0 0), (19, .int .i64 (k : Int))] (tG H i p n a1 X (mB m1) (tB s i c (H.length + 4) true)) _ by
      exact PL.at [0, 19] (hl1 0 m a (by omega) hml ha hres) rfl rfl
    clear hres hk d2 hml ha
    intro k m1 a1 hk6 hml ha hres
    induction hd : 6 - k using Nat.strongRecOn generalizing k m1 a1 with
    | _ d ih =>
      refine PL.round ?_; (repeat refine PW.seq ?_); refine PW.rg rfl fun K hK => ?_; simp (maxSteps := 3000000) (disch := omega) only [go_sem, ↓reduceIte, reduceCtorEq, pappend, plen]; refine hK _ _ ?_; clear hK K
      (repeat refine PW.seq ?_); refine PW.cond (t := _) rfl (fun h => ?_) (fun h => ?_)
      rotate_left
      · have h6 : k = 6 := by have := of_decide_eq_false h; omega
        subst h6
        refine PW.exit ?_
        have hlm := hlen m1 hml
        have e6 := eqB6m m1
        simp only [Nat.sub_self, tkCf] at hres
        cases hac : anyC m1 with
        | true =>
          rw [hac, if_pos rfl, Rr.bind_ok] at hres
          rw [hac] at e6
          (repeat refine PW.seq ?_); refine PW.rg rfl fun K hK => ?_; simp (maxSteps := 3000000) (disch := omega) only [go_sem, ↓reduceIte, reduceCtorEq, pappend, plen, g5, g4, tB_v, tB_c, tC_mi, mB_v, mB_c, mbc_6, hlm, ↓e6, Nat.reduceAdd, Nat.reduceLeDiff]; refine hK _ _ ?_; clear hK K
          (repeat refine PW.seq ?_); refine PW.cond (t := _) rfl (fun h => ?_) (fun h => ?_)
          · cases h
          refine PW.skip ?_
          (repeat refine PW.seq ?_); refine PW.rg rfl fun K hK => ?_; simp (maxSteps := 3000000) (disch := omega) only [go_sem, ↓reduceIte, reduceCtorEq, pappend, plen]; refine hK _ _ ?_; clear hK K
          refine PW.ret ⟨_, rfl, .inl ?_⟩
          rw [← hres]
          exact ⟨rfl, rfl⟩
        | false =>
          rw [hac, if_neg (by decide), Rr.bind_er] at hres
          rw [hac] at e6
          (repeat refine PW.seq ?_); refine PW.rg rfl fun K hK => ?_; simp (maxSteps := 3000000) (disch := omega) only [go_sem, ↓reduceIte, reduceCtorEq, pappend, plen, g5, g4, tB_v, tB_c, tC_mi, mB_v, mB_c, mbc_6, hlm, ↓e6, Nat.reduceAdd, Nat.reduceLeDiff]; refine hK _ _ ?_; clear hK K
          (repeat refine PW.seq ?_); refine PW.cond (t := _) rfl (fun h => ?_) (fun h => ?_)
          rotate_left
          · cases h
          (repeat refine PW.seq ?_); refine PW.rg rfl fun K hK => ?_; simp (maxSteps := 3000000) (disch := omega) only [go_sem, ↓reduceIte, reduceCtorEq, pappend, plen]; refine hK _ _ ?_; clear hK K
          refine PW.ret ⟨_, rfl, .inl ?_⟩
          rw [← hres]
          exact ⟨rfl, a1, m1, s, ha, hml, rfl⟩
      have h6 : k < 6 := by have := of_decide_eq_true h; omega
      obtain ⟨n', hn'⟩ : ∃ n', 6 - k = n' + 1 := ⟨5 - k, by omega⟩
      have hkn : 5 - n' = k := by omega
      rw [hn', tkCf, hkn, Rr.bind_bind] at hres
      have hnx := fun m1 a1 => ih (6 - (k + 1)) (by omega) (k + 1) m1 a1 (by omega)
      rw [show 6 - (k + 1) = n' by omega] at hnx
      have hlm := hlen m1 hml
      have hst := fun b => mbc_sc m1 k b h6
      refine PW.skip ?_; (repeat refine PW.seq ?_); refine PW.block ?_
      (repeat refine PW.seq ?_); refine PW.rg rfl fun K hK => ?_; simp (maxSteps := 3000000) (disch := omega) only [go_sem, ↓reduceIte, reduceCtorEq, pappend, plen]; refine hK _ _ ?_; clear hK K
      (repeat refine PW.seq ?_); refine PW.drawi [i, H.length + 4] [(26, [1]), (28, [0]), (32, [1]), (33, [1]), (34, [1])] [] [] mix (by kernel_rfl) (by simp <;> omega) fun K hK => ?_
      simp (maxSteps := 3000000) (disch := omega) only [go_sem, ↓reduceIte, reduceCtorEq, pappend, plen, g5, tB_v, tB_c, tC_mi]
      refine VCj.wr1 (gi a1 (mB m1) (tB s i c (H.length + 4) true)) (fun L hL hG => tflag_gen L (H.length + 5) i p n a1 c s (H.length + 4) true ((hG.out _ (by simp; omega)).trans (g5 _ _ _)) hL ha hn hp) (by simp (maxSteps := 3000000) (disch := omega) only [go_sem, ↓reduceIte, reduceCtorEq, pappend, plen]) (.inl rfl) rfl ?_
      rw [si]
      cases hf : tkF p n a1 with
      | ok b a2 =>
        obtain ⟨rfl, h2, _⟩ := tkF_b hf
        rw [hf, Rr.bind_ok] at hres
        simp only [rvF, Rr.at]
        simp (maxSteps := 3000000) (disch := omega) only [go_sem, ↓reduceIte, reduceCtorEq, pappend, plen, g4, s4, mB_v, mB_c, mB_e, hlm, hst, mB_of]
        refine hK _ _ ?_; clear hK K
        (repeat refine PW.seq ?_); refine PW.rg rfl fun K hK => ?_; simp (maxSteps := 3000000) (disch := omega) only [go_sem, ↓reduceIte, reduceCtorEq, pappend, plen]; refine hK _ _ ?_; clear hK K
        (repeat refine PW.seq ?_); refine PW.cond (t := _) rfl (fun h => ?_) (fun h => ?_)
        · cases h
        refine PW.skip ?_
        (repeat refine PW.seq ?_); refine PW.rg rfl fun K hK => ?_; simp (maxSteps := 3000000) (disch := omega) only [go_sem, ↓reduceIte, reduceCtorEq, pappend, plen]; refine hK _ _ ?_; clear hK K
        exact PL.at [0, 19] (hnx (setCd m1 k b) (a1 + 1) (by rw [setCd_lv]; exact hml) (by omega) hres rfl) rfl rfl
      | er e a2 =>
        obtain ⟨rfl, rfl, h2⟩ := tkF_e hf
        rw [hf, Rr.bind_er] at hres
        simp only [rvF, Rr.at]
        simp (maxSteps := 3000000) (disch := omega) only [go_sem, ↓reduceIte, reduceCtorEq, pappend, plen, g4, s4, mB_v, mB_c, mB_e, hlm, hst, mB_of]
        refine hK _ _ ?_; clear hK K
        (repeat refine PW.seq ?_); refine PW.rg rfl fun K hK => ?_; simp (maxSteps := 3000000) (disch := omega) only [go_sem, ↓reduceIte, reduceCtorEq, pappend, plen]; refine hK _ _ ?_; clear hK K
        (repeat refine PW.seq ?_); refine PW.cond (t := _) rfl (fun h => ?_) (fun h => ?_)
        rotate_left
        · cases h
        (repeat refine PW.seq ?_); refine PW.rg rfl fun K hK => ?_; simp (maxSteps := 3000000) (disch := omega) only [go_sem, ↓reduceIte, reduceCtorEq, pappend, plen]; refine hK _ _ ?_; clear hK K
        refine PW.ret ⟨_, rfl, .inl ?_⟩
        rw [← hres]
        exact ⟨rfl, a2, setCd m1 k false, s, ha, by rw [setCd_lv]; exact hml, rfl⟩
end

end Go.Proofs.Ytcabpncdgagihaa.Sc

namespace Go.Proofs.Ytcabpncdgagihaa.Sc
set_option linter.all false
set_option linter.unusedVariables false
set_option linter.unusedSimpArgs false
open Pm Ty Go.RowKit

def hdM (m : Mb) : List PV := [.int .i64 m.k, .bool m.ua, .bool m.ub, .bool m.fp, .bool m.fd, .int .i64 m.va, .int .i64 m.vb, .int .i64 m.vc, .int .i64 m.vd, .int .i64 m.ve, .int .i64 m.vf, .int .i64 m.vg, .int .i64 m.vh, .int .i64 m.sa, .int .i64 m.sb, .int .i64 m.sc, .int .i64 m.sd, .int .i64 m.dl, .bool m.ca, .bool m.cb, .bool m.cc, .bool m.cd, .bool m.ce, .bool m.cf]
theorem mbc_app (m : Mb) : mbc m = hdM m ++ is m.lv := rfl
theorem hdM_len (m : Mb) : (hdM m).length = 24 := rfl
theorem mbc_tk (m : Mb) (x : Nat) : List.take (24 + x) (mbc m) = hdM m ++ is (m.lv.take x) := by
  rw [mbc_app, List.take_append, hdM_len, List.take_of_length_le (by rw [hdM_len]; omega), show 24 + x - 24 = x by omega, is_take]
theorem mbc_dp (m : Mb) (x : Nat) : List.drop (24 + x) (mbc m) = is (m.lv.drop x) := by
  rw [mbc_app, List.drop_append, hdM_len, List.drop_of_length_le (by rw [hdM_len]; omega), show 24 + x - 24 = x by omega, is_drop]; rfl
theorem setLv_len (m : Mb) (k : Nat) (l : List Int) (hk : k < 6) (hl : l.length = 64) (hm : m.lv.length = 384) : (setLv m k l).lv.length = 384 := by
  simp only [setLv, List.length_append, List.length_take, List.length_drop, hl, hm]; omega
theorem mbc_sL (m : Mb) (k : Nat) (l : List Int) : List.take (24 + k * 64) (mbc m) ++ (is l ++ List.drop (24 + k * 64 + 64) (mbc m)) = mbc (setLv m k l) := by
  rw [mbc_tk, show 24 + k * 64 + 64 = 24 + (k * 64 + 64) by omega, mbc_dp, mbc_app]
  show _ = hdM m ++ is (m.lv.take (k * 64) ++ l ++ m.lv.drop (k * 64 + 64))
  rw [is_append, is_append, List.append_assoc, List.append_assoc]
theorem mbc_gL (m : Mb) (k : Nat) (l : List Int) (hk : k < 6) (hl : l.length = 64) (hm : m.lv.length = 384) : List.take 64 (List.drop (24 + k * 64) (mbc (setLv m k l))) = is l := by
  rw [mbc_dp, is_take]
  congr 1
  have h1 : (m.lv.take (k * 64)).length = k * 64 := by rw [List.length_take]; omega
  simp only [setLv]
  rw [List.append_assoc, List.drop_left' h1, List.take_left' hl]
theorem mbc_s0 (m : Mb) (k : Nat) (l : List Int) (d : Int) (hk : k < 6) (hl : l.length = 64) (hm : m.lv.length = 384) : (mbc (setLv m k l)).set (24 + k * 64) (.int .i64 d) = mbc (setLv m k (l.set 0 d)) := by
  have h1 : (m.lv.take (k * 64)).length = k * 64 := by rw [List.length_take]; omega
  rw [mbc_app, mbc_app, List.set_append_right _ _ (by rw [hdM_len]; omega), hdM_len, show 24 + k * 64 - 24 = k * 64 by omega, is_set]
  show hdM m ++ _ = hdM m ++ _
  congr 2
  simp only [setLv]
  rw [List.append_assoc, List.set_append_right _ _ (by omega), h1, Nat.sub_self, List.set_append_left _ _ (by omega), ← List.append_assoc]
theorem tC_d (s : St) (w : Nat) (c : Cx) (mi : Nat) (hl : Bool) (q : Nat) (h : q < 3) : (tC s w c mi hl)[1 + q]? = some (.int .i64 (dcS s q)) := by
  have : q = 0 ∨ q = 1 ∨ q = 2 := by omega
  rcases this with rfl | rfl | rfl <;> rfl
theorem tC_sd (s : St) (w : Nat) (c : Cx) (mi : Nat) (hl : Bool) (q : Nat) (h : q < 3) (x : Int) : (tC s w c mi hl).set (1 + q) (.int .i64 x) = tC (setD s q x) w c mi hl := by
  have : q = 0 ∨ q = 1 ∨ q = 2 := by omega
  rcases this with rfl | rfl | rfl <;> rfl
theorem dcS_set (s : St) (q : Nat) (x : Int) (h : q < 3) : dcS (setD s q x) q = x := by
  have : q = 0 ∨ q = 1 ∨ q = 2 := by omega
  rcases this with rfl | rfl | rfl <;> rfl
theorem pqZ64 (l : List Int) (h : l.length = 64) : peqI (.int .i64) (is l) [.int .i64 0, .int .i64 0, .int .i64 0, .int .i64 0, .int .i64 0, .int .i64 0, .int .i64 0, .int .i64 0, .int .i64 0, .int .i64 0, .int .i64 0, .int .i64 0, .int .i64 0, .int .i64 0, .int .i64 0, .int .i64 0, .int .i64 0, .int .i64 0, .int .i64 0, .int .i64 0, .int .i64 0, .int .i64 0, .int .i64 0, .int .i64 0, .int .i64 0, .int .i64 0, .int .i64 0, .int .i64 0, .int .i64 0, .int .i64 0, .int .i64 0, .int .i64 0, .int .i64 0, .int .i64 0, .int .i64 0, .int .i64 0, .int .i64 0, .int .i64 0, .int .i64 0, .int .i64 0, .int .i64 0, .int .i64 0, .int .i64 0, .int .i64 0, .int .i64 0, .int .i64 0, .int .i64 0, .int .i64 0, .int .i64 0, .int .i64 0, .int .i64 0, .int .i64 0, .int .i64 0, .int .i64 0, .int .i64 0, .int .i64 0, .int .i64 0, .int .i64 0, .int .i64 0, .int .i64 0, .int .i64 0, .int .i64 0, .int .i64 0, .int .i64 0] = some (decide (l = z64)) := by
  have hp := peqI_is .i64 l z64 (by simp [z64, h])
  have dz : (l == z64) = decide (l = z64) := by rw [Bool.eq_iff_iff]; simp
  rw [dz] at hp
  exact hp

section
variable (H : Heap) (i : Nat) (p : List UInt8) (n : Nat) (X : Heap) (c : Cx) (hl : Bool) (hi : i < H.length) (hX : X.length = 4) (hn : n ≤ 8 * p.length) (hp : p.length ≤ 100000000)
include hi hX hn hp
set_option maxHeartbeats 4000000 in
theorem tlev_ok (m : Mb) (s : St) (a : Nat) (hml : m.lv.length = 384) (hs : dcR s) (ha : a ≤ n) : CallEx Try.prog 59 [.ptr (H.length + 5) 0 0] (tG H i p n a X (mB m) (tB s i c (H.length + 4) hl)) (prtR H i p n X c hl (tkLv p n 6 m s a)) := by
  have g5 := fun a B4 B5 => tG_5 H i p n a X B4 B5 hX
  have g4 := fun a B4 B5 => tG_4 H i p n a X B4 B5 hX
  have s5 := fun a B4 B5 B => tG_s5 H i p n a X B4 B5 hX B
  have s4 := fun a B4 B5 B => tG_s4 H i p n a X B4 B5 hX B
  have gi := fun a B4 B5 => tG_i H i p n a X B4 B5 hi
  have si := fun a B4 B5 a' => tG_si H i p n a X B4 B5 hi a'
  have hlen := fun (m : Mb) (h : m.lv.length = 384) => mbc_len m h
  have hfg := fun k (hk : k < 6) => fs_get (cdl m) k hk
  have hcl : (fs (cdl m)).length = 6 := rfl
  have co := fun k hk K => cmp_ok k K hk
  have hzl : z64.length = 64 := by simp [z64]
  generalize hres : tkLv p n 6 m s a = res
  have hlm := hlen m hml
  refine CallEx.body (F0 := [(0, .ptr (H.length + 5) 0 0)]) Try.func59 rfl Try.ntmps59 Try.results59 rfl (by kernel_rfl) rfl ?_
  (repeat refine PW.seq ?_); refine PW.rg rfl fun K hK => ?_; simp (maxSteps := 3000000) (disch := omega) only [go_sem, ↓reduceIte, reduceCtorEq, pappend, plen]; refine hK _ _ ?_; clear hK K
  (repeat refine PW.seq ?_); refine PW.rg rfl fun K hK => ?_; simp (maxSteps := 3000000) (disch := omega) only [go_sem, ↓reduceIte, reduceCtorEq, pappend, plen, g5, g4, tB_v, tB_c, tC_mi, mB_v, mB_c, mbc_6, hlm, Nat.reduceAdd, Nat.reduceLeDiff]; refine hK _ _ ?_; clear hK K
  (repeat refine PW.seq ?_); refine PW.block (PW.loop ?_)
  suffices hl1 : ∀ (k : Nat) (m1 : Mb) (s1 : St) (a1 : Nat), k ≤ 6 → m1.lv.length = 384 → cdl m1 = cdl m → dcR s1 → a1 ≤ n → tkLv p n (6 - k) m1 s1 a1 = res → PL Try.prog _ _ [(0, .ptr (H.length + 5) 0 0), (13, .agg (fs (cdl m))), (14, .int .i64 (k : Int))] (tG H i p n a1 X (mB m1) (tB s1 i c (H.length + 4) hl)) _ by
    exact PL.at [0, 13, 14] (hl1 0 m s a (by omega) hml rfl hs ha hres) rfl rfl
  clear hres hml ha hs hlm
  intro k m1 s1 a1 hk6 hml hcd hs ha hres
  induction hd : 6 - k using Nat.strongRecOn generalizing k m1 s1 a1 with
  | _ d ih =>
    refine PL.round ?_; (repeat refine PW.seq ?_); refine PW.rg rfl fun K hK => ?_; simp (maxSteps := 3000000) (disch := omega) only [go_sem, ↓reduceIte, reduceCtorEq, pappend, plen]; refine hK _ _ ?_; clear hK K
    (repeat refine PW.seq ?_); refine PW.cond (t := _) rfl (fun h => ?_) (fun h => ?_)
    rotate_left
    · have h6 : k = 6 := by have := of_decide_eq_false h; omega
      subst h6
      refine PW.exit ?_
      simp only [Nat.sub_self, tkLv] at hres
      (repeat refine PW.seq ?_); refine PW.rg rfl fun K hK => ?_; simp (maxSteps := 3000000) (disch := omega) only [go_sem, ↓reduceIte, reduceCtorEq, pappend, plen]; refine hK _ _ ?_; clear hK K
      refine PW.ret ⟨_, rfl, .inl ?_⟩
      rw [← hres]
      exact ⟨rfl, rfl⟩
    have h6 : k < 6 := by have := of_decide_eq_true h; omega
    obtain ⟨n', hn'⟩ : ∃ n', 6 - k = n' + 1 := ⟨5 - k, by omega⟩
    have hkn : 5 - n' = k := by omega
    rw [hn', tkLv, hkn, hcd] at hres
    have hnx := fun m1 s1 a1 => ih (6 - (k + 1)) (by omega) (k + 1) m1 s1 a1 (by omega)
    rw [show 6 - (k + 1) = n' by omega] at hnx
    have hlm := hlen m1 hml
    have hgx := hfg k h6
    refine PW.skip ?_; (repeat refine PW.seq ?_); refine PW.block ?_
    (repeat refine PW.seq ?_); refine PW.rg rfl fun K hK => ?_; simp (maxSteps := 3000000) (disch := omega) only [go_sem, ↓reduceIte, reduceCtorEq, pappend, plen, hgx, hcl]; refine hK _ _ ?_; clear hK K
    generalize flagAt (cdl m) k = fg at *
    (repeat refine PW.seq ?_); refine PW.rg rfl fun K hK => ?_; simp (maxSteps := 3000000) (disch := omega) only [go_sem, ↓reduceIte, reduceCtorEq, pappend, plen]; refine hK _ _ ?_; clear hK K
    cases fg with
    | false =>
      rw [if_neg (by decide)] at hres
      (repeat refine PW.seq ?_); refine PW.cond (t := _) rfl (fun h => ?_) (fun h => ?_)
      rotate_left
      · cases h
      refine PW.exit ?_
      (repeat refine PW.seq ?_); refine PW.rg rfl fun K hK => ?_; simp (maxSteps := 3000000) (disch := omega) only [go_sem, ↓reduceIte, reduceCtorEq, pappend, plen]; refine hK _ _ ?_; clear hK K
      exact PL.at [0, 13, 14] (hnx m1 s1 a1 hml hcd hs ha hres rfl) rfl rfl
    | true =>
      rw [if_pos rfl] at hres
      (repeat refine PW.seq ?_); refine PW.cond (t := _) rfl (fun h => ?_) (fun h => ?_)
      · cases h
      refine PW.skip ?_
      (repeat refine PW.seq ?_); refine PW.rg rfl fun K hK => ?_; simp (maxSteps := 3000000) (disch := omega) only [go_sem, ↓reduceIte, reduceCtorEq, pappend, plen, g5, g4, tB_v, tB_c, tC_mi, mB_v]; refine hK _ _ ?_; clear hK K
      (repeat refine PW.seq ?_); refine PW.rg rfl fun K hK => ?_; simp (maxSteps := 3000000) (disch := omega) only [go_sem, ↓reduceIte, reduceCtorEq, pappend, plen, g5, g4, tB_v, tB_c, tC_mi, mB_v, mB_c, mbc_k]; refine hK _ _ ?_; clear hK K
      have hsL := fun m l => mbc_sL m k l
      have hq3 : k - 3 < 3 := by omega
      by_cases hk : m1.k = 2
      · rw [if_pos hk] at hres
        have d1 : (m1.k == 2) = true := by simp [hk]
        have bt := btake_ok i p n a1 0 _ (gi a1 (mB m1) (tB s1 i c (H.length + 4) hl)) ha hn hp (by omega)
        rw [si] at bt
        rw [d1]
        (repeat refine PW.seq ?_); refine PW.cond (t := _) rfl (fun h => ?_) (fun h => ?_)
        rotate_left
        · cases h
        cases hb : tkBl p n 0 a1 with
        | er e a2 =>
          have hbe := tkB_e _ _ _ _ hb ha
          rw [hb] at bt hres
          simp only [rvB, Rr.at] at bt
          rw [Rr.bind_er] at hres
          have hil : (is z64).length = 64 := by rw [is_len, hzl]
          have hic := is_cell z64
          have d0 : ((e : Int) + 1 != 0) = true := by simp; omega
          have d9 := setLv_len m1 k z64 h6 hzl hml
          generalize hZ : is z64 = Z at *
          (repeat refine PW.seq ?_); refine PW.rg rfl fun K hK => ?_; simp (maxSteps := 3000000) (disch := omega) only [go_sem, ↓reduceIte, reduceCtorEq, pappend, plen, g5, g4, s4, tB_v, tB_c, tC_w, mB_v, mB_c, mB_e, hlm, hil, hic]; refine VCx.call (bt) rfl ?_; simp (maxSteps := 3000000) (disch := omega) only [go_sem, ↓reduceIte, reduceCtorEq, pappend, plen, g5, g4, s4, tB_v, tB_c, tC_w, mB_v, mB_c, mB_e, hlm, hil, hic]; refine hK _ _ ?_; clear hK K
          rw [← hZ]
          simp only [hsL, mB_of]
          (repeat refine PW.seq ?_); refine PW.rg rfl fun K hK => ?_; simp (maxSteps := 3000000) (disch := omega) only [go_sem, ↓reduceIte, reduceCtorEq, pappend, plen, d0]; refine hK _ _ ?_; clear hK K
          (repeat refine PW.seq ?_); refine PW.cond (t := _) rfl (fun h => ?_) (fun h => ?_)
          rotate_left
          · cases h
          (repeat refine PW.seq ?_); refine PW.rg rfl fun K hK => ?_; simp (maxSteps := 3000000) (disch := omega) only [go_sem, ↓reduceIte, reduceCtorEq, pappend, plen]; refine hK _ _ ?_; clear hK K
          refine PW.ret ⟨_, rfl, .inl ?_⟩
          rw [← hres]
          exact ⟨rfl, a2, setLv m1 k z64, s1, by omega, d9, rfl⟩
        | ok l a2 =>
          have hbo := tkB_b _ _ _ _ hb ha
          have hll : l.length = 64 := by rw [hbo.2.2, hzl]
          rw [hb] at bt hres
          simp only [rvB, Rr.at] at bt
          rw [Rr.bind_ok] at hres
          have hil : (is l).length = 64 := by rw [is_len, hll]
          have hic := is_cell l
          have d9 := setLv_len m1 k l h6 hll hml
          have hlm9 := hlen _ d9
          have hgl := mbc_gL m1 k l h6 hll hml
          have ez := pqZ64 l hll
          (repeat refine PW.seq ?_); refine PW.rg rfl fun K hK => ?_; simp (maxSteps := 3000000) (disch := omega) only [go_sem, ↓reduceIte, reduceCtorEq, pappend, plen, g5, g4, s4, tB_v, tB_c, tC_w, mB_v, mB_c, mB_e, hlm, hil, hic]; refine VCx.call (bt) rfl ?_; simp (maxSteps := 3000000) (disch := omega) only [go_sem, ↓reduceIte, reduceCtorEq, pappend, plen, g5, g4, s4, tB_v, tB_c, tC_w, mB_v, mB_c, mB_e, hlm, hil, hic]; refine hK _ _ ?_; clear hK K
          simp only [hsL, mB_of]
          (repeat refine PW.seq ?_); refine PW.rg rfl fun K hK => ?_; simp (maxSteps := 3000000) (disch := omega) only [go_sem, ↓reduceIte, reduceCtorEq, pappend, plen]; refine hK _ _ ?_; clear hK K
          (repeat refine PW.seq ?_); refine PW.cond (t := _) rfl (fun h => ?_) (fun h => ?_)
          · cases h
          refine PW.skip ?_
          by_cases hz : l = z64
          · rw [if_pos hz] at hres
            rw [decide_eq_true hz] at ez
            (repeat refine PW.seq ?_); refine PW.rg rfl fun K hK => ?_; simp (maxSteps := 3000000) (disch := omega) only [go_sem, ↓reduceIte, reduceCtorEq, pappend, plen, g4, mB_v, mB_c, hlm9, hgl, hil, ez]; refine hK _ _ ?_; clear hK K
            (repeat refine PW.seq ?_); refine PW.cond (t := _) rfl (fun h => ?_) (fun h => ?_)
            rotate_left
            · cases h
            (repeat refine PW.seq ?_); refine PW.rg rfl fun K hK => ?_; simp (maxSteps := 3000000) (disch := omega) only [go_sem, ↓reduceIte, reduceCtorEq, pappend, plen]; refine hK _ _ ?_; clear hK K
            refine PW.ret ⟨_, rfl, .inl ?_⟩
            rw [← hres]
            exact ⟨rfl, a2, setLv m1 k l, s1, hbo.2.1, d9, rfl⟩
          · rw [if_neg hz] at hres
            rw [decide_eq_false hz] at ez
            (repeat refine PW.seq ?_); refine PW.rg rfl fun K hK => ?_; simp (maxSteps := 3000000) (disch := omega) only [go_sem, ↓reduceIte, reduceCtorEq, pappend, plen, g4, mB_v, mB_c, hlm9, hgl, hil, ez]; refine hK _ _ ?_; clear hK K
            (repeat refine PW.seq ?_); refine PW.cond (t := _) rfl (fun h => ?_) (fun h => ?_)
            · cases h
            refine PW.skip ?_
            refine PW.exit ?_
            (repeat refine PW.seq ?_); refine PW.rg rfl fun K hK => ?_; simp (maxSteps := 3000000) (disch := omega) only [go_sem, ↓reduceIte, reduceCtorEq, pappend, plen]; refine hK _ _ ?_; clear hK K
            exact PL.at [0, 13, 14] (hnx (setLv m1 k l) s1 a2 d9 hcd hs hbo.2.1 hres rfl) rfl rfl
      · rw [if_neg hk] at hres
        have d1 : (m1.k == 2) = false := by simp [hk]
        rw [d1]
        (repeat refine PW.seq ?_); refine PW.cond (t := _) rfl (fun h => ?_) (fun h => ?_)
        · cases h
        refine PW.skip ?_
        have con := co k h6
        have pdc := fun s => tC_d s i c (H.length + 4) hl (k - 3) hq3
        have psd := fun s x => tC_sd s i c (H.length + 4) hl (k - 3) hq3 x
        have hsk := hs (k - 3)
        (repeat refine PW.seq ?_); refine PW.draw mix (by kernel_rfl) fun K hK => ?_; simp (maxSteps := 3000000) (disch := omega) only [go_sem, ↓reduceIte, reduceCtorEq, pappend, plen]
        refine VCy.call (con _) rfl ?_; simp (maxSteps := 3000000) (disch := omega) only [go_sem, ↓reduceIte, reduceCtorEq, pappend, plen, g5, tB_v]; refine hK _ _ ?_; clear hK K
        have td := tdist_ok H i p n a1 X (mB m1) c s1 hl hi hX ha hn hp (dcS s1 (k - 3)) 4095 (by omega) hsk
        cases h1 : tkD p n (dcS s1 (k - 3)) 4095 a1 with
        | er e a2 =>
          have hb := tkD_e h1 ha
          rw [h1] at td hres
          simp only [rvS, Rr.at] at td
          rw [Rr.bind_er] at hres
          have d0 : ((e : Int) + 1 != 0) = true := by simp; omega
          (repeat refine PW.seq ?_); refine PW.rg rfl fun K hK => ?_; simp (maxSteps := 3000000) (disch := omega) only [go_sem, ↓reduceIte, reduceCtorEq, pappend, plen, g5, tB_v, tB_c, pdc, s5, psd, tB_e, tB_of, tC_len]; refine VCx.call (td) rfl ?_; simp (maxSteps := 3000000) (disch := omega) only [go_sem, ↓reduceIte, reduceCtorEq, pappend, plen, g5, tB_v, tB_c, pdc, s5, psd, tB_e, tB_of, tC_len]; refine hK _ _ ?_; clear hK K
          (repeat refine PW.seq ?_); refine PW.rg rfl fun K hK => ?_; simp (maxSteps := 3000000) (disch := omega) only [go_sem, ↓reduceIte, reduceCtorEq, pappend, plen, d0]; refine hK _ _ ?_; clear hK K
          (repeat refine PW.seq ?_); refine PW.cond (t := _) rfl (fun h => ?_) (fun h => ?_)
          rotate_left
          · cases h
          (repeat refine PW.seq ?_); refine PW.rg rfl fun K hK => ?_; simp (maxSteps := 3000000) (disch := omega) only [go_sem, ↓reduceIte, reduceCtorEq, pappend, plen]; refine hK _ _ ?_; clear hK K
          refine PW.ret ⟨_, rfl, .inl ?_⟩
          rw [← hres]
          exact ⟨rfl, a2, m1, setD s1 (k - 3) 0, by omega, hml, rfl⟩
        | ok x a2 =>
          have hb := tkD_b h1 ha
          rw [h1] at td hres
          simp only [rvS, Rr.at] at td
          rw [Rr.bind_ok] at hres
          (repeat refine PW.seq ?_); refine PW.rg rfl fun K hK => ?_; simp (maxSteps := 3000000) (disch := omega) only [go_sem, ↓reduceIte, reduceCtorEq, pappend, plen, g5, tB_v, tB_c, pdc, s5, psd, tB_e, tB_of, tC_len]; refine VCx.call (td) rfl ?_; simp (maxSteps := 3000000) (disch := omega) only [go_sem, ↓reduceIte, reduceCtorEq, pappend, plen, g5, tB_v, tB_c, pdc, s5, psd, tB_e, tB_of, tC_len]; refine hK _ _ ?_; clear hK K
          (repeat refine PW.seq ?_); refine PW.rg rfl fun K hK => ?_; simp (maxSteps := 3000000) (disch := omega) only [go_sem, ↓reduceIte, reduceCtorEq, pappend, plen]; refine hK _ _ ?_; clear hK K
          (repeat refine PW.seq ?_); refine PW.cond (t := _) rfl (fun h => ?_) (fun h => ?_)
          · cases h
          refine PW.skip ?_
          have hs2 := dcR_set hs (k - 3) (x := x) (by omega)
          have pd2 := pdc (setD s1 (k - 3) x)
          rw [dcS_set _ _ _ hq3] at pd2
          have bt := btake_ok i p n a2 1 _ (gi a2 (mB m1) (tB (setD s1 (k - 3) x) i c (H.length + 4) hl)) hb.2.2 hn hp (by omega)
          rw [si] at bt
          cases hbk : tkBl p n 1 a2 with
          | er e a3 =>
            have hbe := tkB_e _ _ _ _ hbk hb.2.2
            rw [hbk] at bt hres
            simp only [rvB, Rr.at] at bt
            rw [Rr.bind_er] at hres
            have hil : (is z64).length = 64 := by rw [is_len, hzl]
            have hic := is_cell z64
            have d0 : ((e : Int) + 1 != 0) = true := by simp; omega
            have d9 := setLv_len m1 k z64 h6 hzl hml
            generalize hZ : is z64 = Z at *
            (repeat refine PW.seq ?_); refine PW.rg rfl fun K hK => ?_; simp (maxSteps := 3000000) (disch := omega) only [go_sem, ↓reduceIte, reduceCtorEq, pappend, plen, g5, g4, s4, tB_v, tB_c, tC_w, mB_v, mB_c, mB_e, hlm, hil, hic]; refine VCx.call (bt) rfl ?_; simp (maxSteps := 3000000) (disch := omega) only [go_sem, ↓reduceIte, reduceCtorEq, pappend, plen, g5, g4, s4, tB_v, tB_c, tC_w, mB_v, mB_c, mB_e, hlm, hil, hic]; refine hK _ _ ?_; clear hK K
            rw [← hZ]
            simp only [hsL, mB_of]
            (repeat refine PW.seq ?_); refine PW.rg rfl fun K hK => ?_; simp (maxSteps := 3000000) (disch := omega) only [go_sem, ↓reduceIte, reduceCtorEq, pappend, plen, d0]; refine hK _ _ ?_; clear hK K
            (repeat refine PW.seq ?_); refine PW.cond (t := _) rfl (fun h => ?_) (fun h => ?_)
            rotate_left
            · cases h
            (repeat refine PW.seq ?_); refine PW.rg rfl fun K hK => ?_; simp (maxSteps := 3000000) (disch := omega) only [go_sem, ↓reduceIte, reduceCtorEq, pappend, plen]; refine hK _ _ ?_; clear hK K
            refine PW.ret ⟨_, rfl, .inl ?_⟩
            rw [← hres]
            exact ⟨rfl, a3, setLv m1 k z64, setD s1 (k - 3) x, by omega, d9, rfl⟩
          | ok l a3 =>
            have hbo := tkB_b _ _ _ _ hbk hb.2.2
            have hll : l.length = 64 := by rw [hbo.2.2, hzl]
            rw [hbk] at bt hres
            simp only [rvB, Rr.at] at bt
            rw [Rr.bind_ok] at hres
            have hil : (is l).length = 64 := by rw [is_len, hll]
            have hic := is_cell l
            have d9 := setLv_len m1 k l h6 hll hml
            have hlm9 := hlen _ d9
            have hs0 := mbc_s0 m1 k l x h6 hll hml
            have d8 := setLv_len m1 k (l.set 0 x) h6 (by rw [List.length_set]; exact hll) hml
            (repeat refine PW.seq ?_); refine PW.rg rfl fun K hK => ?_; simp (maxSteps := 3000000) (disch := omega) only [go_sem, ↓reduceIte, reduceCtorEq, pappend, plen, g5, g4, s4, tB_v, tB_c, tC_w, mB_v, mB_c, mB_e, hlm, hil, hic]; refine VCx.call (bt) rfl ?_; simp (maxSteps := 3000000) (disch := omega) only [go_sem, ↓reduceIte, reduceCtorEq, pappend, plen, g5, g4, s4, tB_v, tB_c, tC_w, mB_v, mB_c, mB_e, hlm, hil, hic]; refine hK _ _ ?_; clear hK K
            simp only [hsL, mB_of]
            (repeat refine PW.seq ?_); refine PW.rg rfl fun K hK => ?_; simp (maxSteps := 3000000) (disch := omega) only [go_sem, ↓reduceIte, reduceCtorEq, pappend, plen]; refine hK _ _ ?_; clear hK K
            (repeat refine PW.seq ?_); refine PW.cond (t := _) rfl (fun h => ?_) (fun h => ?_)
            · cases h
            refine PW.skip ?_
            (repeat refine PW.seq ?_); refine PW.drawt [] [] mix (by kernel_rfl) fun K hK => ?_; simp (maxSteps := 3000000) (disch := omega) only [go_sem, ↓reduceIte, reduceCtorEq, pappend, plen, g5, g4, s4, tB_v, tB_c, pd2, mB_v, mB_c, mB_e, hlm9, hs0, mB_of]; refine hK _ _ ?_; clear hK K
            (repeat refine PW.seq ?_); refine PW.rg rfl fun K hK => ?_; simp (maxSteps := 3000000) (disch := omega) only [go_sem, ↓reduceIte, reduceCtorEq, pappend, plen]; refine hK _ _ ?_; clear hK K
            exact PL.at [0, 13, 14] (hnx (setLv m1 k (l.set 0 x)) (setD s1 (k - 3) x) a3 d8 hcd hs2 hbo.2.1 hres rfl) rfl rfl
end

end Go.Proofs.Ytcabpncdgagihaa.Sc

namespace Go.Proofs.Ytcabpncdgagihaa.Sc
set_option linter.all false
set_option linter.unusedVariables false
set_option linter.unusedSimpArgs false
open Pm Ty Go.RowKit

/-- What Take returns: for a valid context and state. -/
def mtkA (c : Cx) (s : St) (q : List UInt8) (n a : Nat) : Rr (Mb × St) := if vcx c && vstB s then mtk c s q n a else .er 0 a
def rvM : Rr (Mb × St) → PV
  | .ok y _ => .tup [.agg (mbc y.1), .agg (stc y.2), .int .i64 0]
  | .er e _ => .tup [.agg zmv, .agg (stc zSt), ecd e]
def mtkR (H : Heap) (i : Nat) (p : List UInt8) (n : Nat) (x : Rr (Mb × St)) : PV → Heap → Prop := fun v H' => v = rvM x ∧
  match x with
  | .ok _ a => H' = H.set i (rA p n a)
  | .er _ _ => ∃ a, a ≤ n ∧ H' = H.set i (rA p n a)
theorem mbc_sco (k : Nat) (m : Mb) : ∀ x ∈ mbc m, Scoped k x := fun x hx => mbl_sc0 k m x hx
where
  mbl_sc0 (n : Nat) (m : Mb) : ∀ x ∈ mbc m, Scoped n x := fun x hx => by
    simp only [mbc, List.mem_cons] at hx
    rcases hx with rfl | rfl | rfl | rfl | rfl | rfl | rfl | rfl | rfl | rfl | rfl | rfl | rfl | rfl | rfl | rfl | rfl | rfl | rfl | rfl | rfl | rfl | rfl | rfl | hx
    all_goals first | exact .int _ _ | exact .bool _ | exact is_scoped _ _ _ hx
theorem rvM_sc (k : Nat) (x : Rr (Mb × St)) : Scoped k (rvM x) := by
  cases x with
  | ok y a =>
    refine .tup (all_scoped' fun x hx => ?_)
    simp only [List.mem_cons, List.not_mem_nil, or_false] at hx
    rcases hx with rfl | rfl | rfl
    · exact ag_scoped (mbc_sco _ _)
    · exact stc_scoped _ _
    · exact .int _ _
  | er e a =>
    refine .tup (all_scoped' fun x hx => ?_)
    simp only [List.mem_cons, List.not_mem_nil, or_false] at hx
    rcases hx with rfl | rfl | rfl
    · exact ag_scoped (mbc_sco _ _)
    · exact stc_scoped _ _
    · exact .int _ _
theorem zcMb : zcells Try.prog 49 = some zmv := by kernel_rfl
theorem zcTk : zcells Try.prog 126 = some ([.int .i64 0, .int .i64 0, .int .i64 0, .int .i64 0, .int .i64 0, .int .i64 0, .int .i64 0, .int .i64 0, .nilp, .int .i64 0, .int .i64 0, .bool false, .bool false, .nilp, .bool false] : List PV) := by kernel_rfl
theorem zmv_len : zmv.length = 408 := mbc_len zMb zl384_len
theorem zmv_cell : zmv.all PV.cell = true := mbc_cell zMb
theorem tkCh_b {c : Cx} {p : List UInt8} {n : Nat} {hl : Bool} {m : Mb} {s : St} {a : Nat} {y : Mb × St} {a1 : Nat} (h : tkCh c p n hl m s a = .ok y a1) (ha : a ≤ n) : a1 ≤ n ∧ y.1.lv = m.lv ∧ (s.da = y.2.da ∧ s.db = y.2.db ∧ s.dc = y.2.dc) := by
  unfold tkCh at h
  split at h
  · suffices hr : ∀ (m' : Mb) (a' : Nat), m'.lv = m.lv → a' ≤ n → ((tkS p n a').bind fun d a2 => if vqB (s.q + d) then .ok ({ m' with dl := d }, { s with q := s.q + d }) a2 else .er 2 a2) = .ok y a1 → a1 ≤ n ∧ y.1.lv = m.lv ∧ (s.da = y.2.da ∧ s.db = y.2.db ∧ s.dc = y.2.dc) by
      split at h
      · cases hf : tkF p n a with
        | er e a2 => rw [hf] at h; cases h
        | ok b a2 =>
          have := tkF_b hf
          rw [hf, Rr.bind_ok, Rr.bind_ok] at h
          exact hr { m with fd := b } a2 rfl (by omega) h
      · rw [Rr.bind_ok] at h
        exact hr m a rfl ha h
    intro m' a' hm' ha' h
    cases h1 : tkS p n a' with
    | er e a2 => rw [h1] at h; cases h
    | ok d a2 =>
      have b1 := tkS_b h1 ha'
      rw [h1, Rr.bind_ok] at h
      split at h
      · injection h with e1 e2
        subst e1 e2
        exact ⟨b1.2.2, hm', rfl, rfl, rfl⟩
      · cases h
  · injection h with e1 e2
    subst e1 e2
    exact ⟨ha, rfl, rfl, rfl, rfl⟩
theorem setCd_k (m : Mb) (n : Nat) (b : Bool) : (setCd m n b).k = m.k := by
  unfold setCd
  repeat' split
  all_goals rfl
theorem tkCf_b {p : List UInt8} {n : Nat} : ∀ (r : Nat) (m : Mb) (a : Nat) {m' : Mb} {a1 : Nat}, tkCf p n r m a = .ok m' a1 → a ≤ n → a1 ≤ n ∧ m'.lv = m.lv ∧ m'.k = m.k
  | 0, m, a, m', a1, h, ha => by
    simp only [tkCf] at h
    split at h
    · injection h with e1 e2
      subst e1 e2
      exact ⟨ha, rfl, rfl⟩
    · cases h
  | r + 1, m, a, m', a1, h, ha => by
    simp only [tkCf] at h
    cases hf : tkF p n a with
    | er e a2 => rw [hf] at h; cases h
    | ok b a2 =>
      have hb := tkF_b hf
      rw [hf, Rr.bind_ok] at h
      obtain ⟨c1, c2, c3⟩ := tkCf_b r _ _ h (by omega)
      exact ⟨c1, by rw [c2, setCd_lv], by rw [c3, setCd_k]⟩
theorem tkCo_b {p : List UInt8} {n : Nat} {hl : Bool} {m : Mb} {a : Nat} {m' : Mb} {a1 : Nat} (h : tkCo p n hl m a = .ok m' a1) (ha : a ≤ n) : a1 ≤ n ∧ m'.lv = m.lv ∧ m'.k = m.k := by
  unfold tkCo at h
  split at h
  · exact tkCf_b _ _ _ h ha
  · injection h with e1 e2
    subst e1 e2
    exact ⟨ha, rfl, rfl⟩
theorem tkDs_b {c : Cx} {p : List UInt8} {n : Nat} : ∀ (r d : Nat) (m : Mb) (s : St) (a : Nat) {y : Mb × St} {a1 : Nat}, tkDs c p n r d m s a = .ok y a1 → a ≤ n → vrS s → a1 ≤ n ∧ SameU m y.1 ∧ vrS y.2
  | 0, d, m, s, a, y, a1, h, ha, hs => by
    simp only [tkDs] at h
    injection h with e1 e2
    subst e1 e2
    exact ⟨ha, .refl m, hs⟩
  | r + 1, d, m, s, a, y, a1, h, ha, hs => by
    simp only [tkDs] at h
    cases h1 : tkDr c p n m s d a with
    | er e a2 => rw [h1] at h; cases h
    | ok x a2 =>
      obtain ⟨b1, b2, b3⟩ := tkDr_b h1 ha hs
      rw [h1, Rr.bind_ok] at h
      obtain ⟨c1, c2, c3⟩ := tkDs_b r (d + 1) x.1 x.2 a2 h b1 b3
      exact ⟨c1, b2.trans c2, c3⟩
theorem tkVc_q {c : Cx} {p : List UInt8} {n : Nat} {m : Mb} {s : St} {d k a : Nat} {y : Mb × St} {a1 : Nat} (h : tkVc c p n m s d k a = .ok y a1) : SameQ s y.2 := by
  unfold tkVc at h
  suffices hr : ∀ (m' : Mb) (a' : Nat), ((tkD p n (sXs s d) 63 a').bind fun x a2 => (tkD p n (sYs s d) 63 a2).bind fun y a3 => .ok (setVm m' d k x y, setV s d x y) a3) = .ok y a1 → SameQ s y.2 by
    split at h
    · cases hf : tkF p n a with
      | er e a2 => rw [hf] at h; cases h
      | ok b a2 => rw [hf, Rr.bind_ok, Rr.bind_ok] at h; exact hr _ _ h
    · rw [Rr.bind_ok] at h; exact hr _ _ h
  intro m' a' h
  cases h1 : tkD p n (sXs s d) 63 a' with
  | er e a2 => rw [h1] at h; cases h
  | ok x a2 =>
    rw [h1, Rr.bind_ok] at h
    cases h2 : tkD p n (sYs s d) 63 a2 with
    | er e a3 => rw [h2] at h; cases h
    | ok z a3 =>
      rw [h2, Rr.bind_ok] at h
      injection h with e1 e2
      subst e1
      show SameQ s (setV s d x z)
      unfold setV
      split <;> exact ⟨rfl, rfl, rfl, rfl⟩
theorem tkVs_q {c : Cx} {p : List UInt8} {n d : Nat} : ∀ (r k : Nat) (m : Mb) (s : St) (a : Nat) {y : Mb × St} {a1 : Nat}, tkVs c p n d r k m s a = .ok y a1 → SameQ s y.2
  | 0, k, m, s, a, y, a1, h => by
    simp only [tkVs] at h
    injection h with e1 e2
    subst e1
    exact ⟨rfl, rfl, rfl, rfl⟩
  | r + 1, k, m, s, a, y, a1, h => by
    simp only [tkVs] at h
    cases h1 : tkVc c p n m s d k a with
    | er e a2 => rw [h1] at h; cases h
    | ok x a2 =>
      rw [h1, Rr.bind_ok] at h
      exact (tkVc_q h1).trans (tkVs_q r (k + 1) x.1 x.2 a2 h)
theorem tkDs_q {c : Cx} {p : List UInt8} {n : Nat} : ∀ (r d : Nat) (m : Mb) (s : St) (a : Nat) {y : Mb × St} {a1 : Nat}, tkDs c p n r d m s a = .ok y a1 → SameQ s y.2
  | 0, d, m, s, a, y, a1, h => by
    simp only [tkDs] at h
    injection h with e1 e2
    subst e1
    exact ⟨rfl, rfl, rfl, rfl⟩
  | r + 1, d, m, s, a, y, a1, h => by
    simp only [tkDs] at h
    cases h1 : tkDr c p n m s d a with
    | er e a2 => rw [h1] at h; cases h
    | ok x a2 =>
      rw [h1, Rr.bind_ok] at h
      refine SameQ.trans ?_ (tkDs_q r (d + 1) x.1 x.2 a2 h)
      unfold tkDr at h1
      split at h1
      · exact tkVs_q _ _ _ _ _ h1
      · injection h1 with e1 e2
        subst e1
        exact ⟨rfl, rfl, rfl, rfl⟩
theorem tkPr_b {c : Cx} {p : List UInt8} {n : Nat} {m : Mb} {s : St} {a : Nat} {y : Mb × St} {a1 : Nat} (h : tkPr c p n m s a = .ok y a1) (ha : a ≤ n) (hs : vrS s) : a1 ≤ n ∧ y.1.lv = m.lv ∧ y.1.k = m.k ∧ SameQ s y.2 := by
  unfold tkPr at h
  split at h
  · split at h
    · cases hf : tkF p n a with
      | er e a2 => rw [hf] at h; cases h
      | ok b a2 =>
        have := tkF_b hf
        rw [hf, Rr.bind_ok, Rr.bind_ok] at h
        obtain ⟨c1, c2, c3⟩ := tkDs_b _ _ _ _ _ h (by omega) hs
        exact ⟨c1, c2.1, c2.2.2.2.2, tkDs_q _ _ _ _ _ h⟩
    · rw [Rr.bind_ok] at h
      obtain ⟨c1, c2, c3⟩ := tkDs_b _ _ _ _ _ h ha hs
      exact ⟨c1, c2.1, c2.2.2.2.2, tkDs_q _ _ _ _ _ h⟩
  · injection h with e1 e2
    subst e1 e2
    exact ⟨ha, rfl, rfl, rfl, rfl, rfl, rfl⟩
theorem tkKd_b {c : Cx} {p : List UInt8} {n a : Nat} {x : Mb × Bool} {a1 : Nat} (h : tkKd c p n a = .ok x a1) (ha : a ≤ n) : a1 ≤ n ∧ x.1.lv = zl384 := by
  unfold tkKd at h
  split at h
  · injection h with e1 e2
    subst e1 e2
    exact ⟨ha, rfl⟩
  · cases hu : tkU p n a with
    | er e a2 => rw [hu] at h; cases h
    | ok v a2 =>
      have hb := tkU_b hu ha
      rw [hu, Rr.bind_ok] at h
      generalize (if c.t = 2 then 3 else 7 : Nat) = last at h
      split at h
      · cases h
      · split at h
        · injection h with e1 e2; subst e1 e2; exact ⟨hb.2.2, rfl⟩
        · split at h
          · injection h with e1 e2; subst e1 e2; exact ⟨hb.2.2, rfl⟩
          · injection h with e1 e2; subst e1 e2; exact ⟨hb.2.2, rfl⟩
theorem tkLv_b {p : List UInt8} {n : Nat} : ∀ (r : Nat) (m : Mb) (s : St) (a : Nat) {y : Mb × St} {a1 : Nat}, tkLv p n r m s a = .ok y a1 → a ≤ n → r ≤ 6 → m.lv.length = 384 → a1 ≤ n ∧ y.1.lv.length = 384 ∧ y.1.k = m.k
  | 0, m, s, a, y, a1, h, ha, hr, hm => by
    simp only [tkLv] at h
    injection h with e1 e2
    subst e1 e2
    exact ⟨ha, hm, rfl⟩
  | r + 1, m, s, a, y, a1, h, ha, hr, hm => by
    have hzl : z64.length = 64 := by simp [z64]
    simp only [tkLv] at h
    split at h
    · split at h
      · cases h1 : tkBl p n 0 a with
        | er e a2 => rw [h1] at h; cases h
        | ok l a2 =>
          have hb := tkB_b _ _ _ _ h1 ha
          rw [h1, Rr.bind_ok] at h
          split at h
          · cases h
          · exact tkLv_b r (setLv m (5 - r) l) s a2 h hb.2.1 (by omega) (setLv_len _ _ _ (by omega) (by rw [hb.2.2, hzl]) hm)
      · cases h1 : tkD p n (dcS s (5 - r - 3)) 4095 a with
        | er e a2 => rw [h1] at h; cases h
        | ok d a2 =>
          have hb := tkD_b h1 ha
          rw [h1, Rr.bind_ok] at h
          cases h2 : tkBl p n 1 a2 with
          | er e a3 => rw [h2] at h; cases h
          | ok l a3 =>
            have hb2 := tkB_b _ _ _ _ h2 hb.2.2
            rw [h2, Rr.bind_ok] at h
            exact tkLv_b r (setLv m (5 - r) (l.set 0 d)) _ a3 h hb2.2.1 (by omega) (setLv_len _ _ _ (by omega) (by rw [List.length_set, hb2.2.2, hzl]) hm)
    · exact tkLv_b r m s a h ha (by omega) hm

/-- Dropping Take's own blocks. -/
theorem tk_out (H : Heap) (i : Nat) (p : List UInt8) (n a : Nat) (K : Heap) (x : Rr (Mb × St)) (hx : match x with | .ok _ a' => a = a' | .er _ _ => a ≤ n) : Outs H (mtkR H i p n x) (rvM x) (H.set i (rA p n a) ++ K) :=
  .inr (.inr fun hs => ⟨rvM x, H.set i (rA p n a), by
    cases x with
    | ok y a' => exact ⟨rfl, by rw [show a = a' from hx]⟩
    | er e a' => exact ⟨rfl, a, hx, rfl⟩, by simp, CutH.base (hsc_rA _ _ _ _ _ hs), .id (rvM_sc _ _)⟩)
theorem tkKd_e {c : Cx} {p : List UInt8} {n a e a1 : Nat} (h : tkKd c p n a = .er e a1) (ha : a ≤ n) : a1 ≤ n := by
  unfold tkKd at h
  split at h
  · cases h
  · cases hu : tkU p n a with
    | er e2 a2 => rw [hu] at h; have := tkU_e hu; injection h with h1 h2; omega
    | ok v a2 =>
      have hb := tkU_b hu ha
      rw [hu, Rr.bind_ok] at h
      generalize (if c.t = 2 then 3 else 7 : Nat) = last at h
      split at h
      · injection h with h1 h2; omega
      · split at h
        · cases h
        · split at h <;> cases h
theorem tG_gX (H : Heap) (i : Nat) (p : List UInt8) (n a : Nat) (X : Heap) (B4 B5 : Blk) (j : Nat) (hX : X.length = 4) (hj : j < 4) : (tG H i p n a X B4 B5)[H.length + j]? = X[j]? := by
  unfold tG
  rw [List.getElem?_append_right (by simp), List.length_set, show H.length + j - H.length = j by omega, List.getElem?_append_left (by omega)]
theorem tG_sX (H : Heap) (i : Nat) (p : List UInt8) (n a : Nat) (X : Heap) (B4 B5 B : Blk) (j : Nat) (hX : X.length = 4) (hj : j < 4) : (tG H i p n a X B4 B5).set (H.length + j) B = tG H i p n a (X.set j B) B4 B5 := by
  unfold tG
  rw [List.set_append_right _ _ (by simp), List.length_set, show H.length + j - H.length = j by omega, List.set_append_left _ _ (by omega)]
/-- What is left to do from part k on. -/
def Rk (c : Cx) (q : List UInt8) (n : Nat) : Nat → Mb → St → Bool → Nat → Rr (Mb × St)
  | 0, _, s, _, a => mtk c s q n a
  | 1, m, s, hl, a => tkRs c q n hl m s a
  | 2, m, s, hl, a => (tkCh c q n hl m s a).bind fun z a3 => (tkCo q n hl z.1 a3).bind fun m a4 => (tkLv q n 6 m z.2 a4).bind fun w a5 => .ok (w.1, aft w.2 w.1.k) a5
  | 3, m, s, hl, a => (tkCo q n hl m a).bind fun m a4 => (tkLv q n 6 m s a4).bind fun w a5 => .ok (w.1, aft w.2 w.1.k) a5
  | 4, m, s, _, a => (tkLv q n 6 m s a).bind fun w a5 => .ok (w.1, aft w.2 w.1.k) a5
  | _, m, s, _, a => .ok (m, aft s m.k) a
structure Sd (n k : Nat) (m : Mb) (s : St) (hl : Bool) (a : Nat) : Prop where
  l : m.lv.length = 384
  a : a ≤ n
  z : k = 0 → m = zMb ∧ hl = false
  v : k ≤ 1 → vrS s
  q : k ≤ 2 → 1 ≤ s.q ∧ s.q ≤ 31
  d : k ≤ 4 → dcR s
def prts : List PV := [.func 55 [] [], .func 56 [] [], .func 57 [] [], .func 58 [] [], .func 59 [] []]
def prtQ (H : Heap) (i : Nat) (p : List UInt8) (n : Nat) (X : Heap) (c : Cx) (k : Nat) (res : Rr (Mb × St)) : PV → Heap → Prop := fun v H' =>
  (∃ m s hl a, v = .int .i64 0 ∧ Sd n (k + 1) m s hl a ∧ Rk c p n (k + 1) m s hl a = res ∧ H' = tG H i p n a X (mB m) (tB s i c (H.length + 4) hl)) ∨
  (∃ e a0, res = .er e a0 ∧ v = ecd e ∧ ∃ a m s hl, a ≤ n ∧ m.lv.length = 384 ∧ H' = tG H i p n a X (mB m) (tB s i c (H.length + 4) hl))
theorem prt_of {H : Heap} {i : Nat} {p : List UInt8} {n : Nat} {X : Heap} {c : Cx} {k : Nat} {res : Rr (Mb × St)} {hl : Bool} {x : Rr (Mb × St)} (hok : ∀ y a, x = .ok y a → Sd n (k + 1) y.1 y.2 hl a ∧ Rk c p n (k + 1) y.1 y.2 hl a = res) (her : ∀ e a, x = .er e a → ∃ a0, res = .er e a0) (v : PV) (H' : Heap) (h : prtR H i p n X c hl x v H') : prtQ H i p n X c k res v H' := by
  cases x with
  | ok y a =>
    obtain ⟨h1, h2⟩ := hok y a rfl
    exact .inl ⟨y.1, y.2, hl, a, h.1, h1, h2, h.2⟩
  | er e a =>
    obtain ⟨a0, h0⟩ := her e a rfl
    obtain ⟨h1, a1, m, s, h2, h3, h4⟩ := h
    exact .inr ⟨e, a0, h0, h1, a1, m, s, hl, h2, h3, h4⟩
theorem disp (H : Heap) (i : Nat) (p : List UInt8) (n : Nat) (X : Heap) (c : Cx) (hi : i < H.length) (hX : X.length = 4) (hn : n ≤ 8 * p.length) (hp : p.length ≤ 100000000) (k : Nat) (hk : k < 5) (m : Mb) (s : St) (hl : Bool) (a : Nat) (res : Rr (Mb × St)) (hS : Sd n k m s hl a) (hR : Rk c p n k m s hl a = res) :
    ∃ f, prts[k]? = some (.func f [] []) ∧ CallEx Try.prog f [.ptr (H.length + 5) 0 0] (tG H i p n a X (mB m) (tB s i c (H.length + 4) hl)) (prtQ H i p n X c k res) := by
  obtain ⟨hl384, ha, hz, hv, hq, hd⟩ := hS
  have h5 : k = 0 ∨ k = 1 ∨ k = 2 ∨ k = 3 ∨ k = 4 := by omega
  rcases h5 with rfl | rfl | rfl | rfl | rfl
  · obtain ⟨rfl, rfl⟩ := hz rfl
    refine ⟨_, rfl, (tkind_ok H i p n a X c s hi hX ha hn hp).toEx.mono fun v H' h => ?_⟩
    obtain ⟨rfl, rfl⟩ := h
    simp only [Rk, mtk] at hR
    cases hk : tkKd c p n a with
    | ok x a1 =>
      rw [hk, Rr.bind_ok] at hR
      obtain ⟨b1, b2⟩ := tkKd_b hk ha
      exact .inl ⟨x.1, s, x.2, a1, rfl, ⟨by rw [b2]; exact zl384_len, b1, fun e => by omega, fun _ => hv (by omega), fun _ => hq (by omega), fun _ => hd (by omega)⟩, hR, rfl⟩
    | er e a1 =>
      rw [hk, Rr.bind_er] at hR
      refine .inr ⟨e, a1, hR.symm, rfl, a1, zMb, s, false, ?_, hl384, rfl⟩
      exact tkKd_e hk ha
  · refine ⟨_, rfl, (tpred_ok H i p n X c hl hi hX hn hp m s a hl384 (hv (by omega)) ha).mono (prt_of ?_ ?_)⟩
    · intro y a1 h
      obtain ⟨b1, b2, b3, b4⟩ := tkPr_b h ha (hv (by omega))
      simp only [Rk, tkRs, h, Rr.bind_ok] at hR
      exact ⟨⟨by rw [b2]; exact hl384, b1, fun e => by omega, fun e => by omega, fun _ => by rw [b4.1]; exact hq (by omega), fun _ => dcR_same b4 (hd (by omega))⟩, hR⟩
    · intro e a1 h
      simp only [Rk, tkRs, h, Rr.bind_er] at hR
      exact ⟨a1, hR.symm⟩
  · refine ⟨_, rfl, (tchg_ok H i p n X c hl hi hX hn hp m s a hl384 (hq (by omega)) ha).mono (prt_of ?_ ?_)⟩
    · intro y a1 h
      obtain ⟨b1, b2, b3⟩ := tkCh_b h ha
      simp only [Rk, h, Rr.bind_ok] at hR
      refine ⟨⟨by rw [b2]; exact hl384, b1, fun e => by omega, fun e => by omega, fun e => by omega, fun _ j => ?_⟩, hR⟩
      have := hd (by omega) j
      unfold dcS at this ⊢
      rw [← b3.1, ← b3.2.1, ← b3.2.2]
      exact this
    · intro e a1 h
      simp only [Rk, h, Rr.bind_er] at hR
      exact ⟨a1, hR.symm⟩
  · refine ⟨_, rfl, (tcod_ok H i p n X c hl hi hX hn hp m s a hl384 ha).mono (prt_of ?_ ?_)⟩
    · intro y a1 h
      cases hc : tkCo p n hl m a with
      | er e a2 => rw [hc] at h; cases h
      | ok m' a2 =>
        obtain ⟨b1, b2, b3⟩ := tkCo_b hc ha
        rw [hc, Rr.bind_ok] at h
        injection h with e1 e2
        subst e1 e2
        simp only [Rk, hc, Rr.bind_ok] at hR
        exact ⟨⟨by rw [b2]; exact hl384, b1, fun e => by omega, fun e => by omega, fun e => by omega, fun _ => hd (by omega)⟩, hR⟩
    · intro e a1 h
      cases hc : tkCo p n hl m a with
      | ok m' a2 => rw [hc] at h; cases h
      | er e2 a2 =>
        rw [hc] at h
        simp only [Rk, hc, Rr.bind_er] at hR
        injection h with e1 e2
        subst e1
        exact ⟨a2, hR.symm⟩
  · refine ⟨_, rfl, (tlev_ok H i p n X c hl hi hX hn hp m s a hl384 (hd (by omega)) ha).mono (prt_of ?_ ?_)⟩
    · intro y a1 h
      obtain ⟨b1, b2, b3⟩ := tkLv_b 6 m s a h ha (by omega) hl384
      simp only [Rk, h, Rr.bind_ok] at hR
      exact ⟨⟨b2, b1, fun e => by omega, fun e => by omega, fun e => by omega, fun e => by omega⟩, hR⟩
    · intro e a1 h
      simp only [Rk, h, Rr.bind_er] at hR
      exact ⟨a1, hR.symm⟩
set_option maxHeartbeats 8000000 in
set_option maxRecDepth 100000 in
theorem mtake_ok (i : Nat) (p : List UInt8) (n a : Nat) (c : Cx) (s : St) (H : Heap) (hA : H[i]? = some (rA p n a)) (ha : a ≤ n) (hn : n ≤ 8 * p.length) (hp : p.length ≤ 100000000) :
    CallEx Try.prog 22 [.ptr i 0 0, .agg (cxc c), .agg (stc s)] H (mtkR H i p n (mtkA c s p n a)) := by
  have hi := (List.getElem?_eq_some_iff.1 hA).1
  have hself := set_self hA
  have c1 := cxc_cell c
  have c2 := stc_cell s
  have vo := fun K => vcx_ok c K
  have so := fun K => vst_ok' s K
  have tk1 : List.take 4 (cxc c) = cxc c := rfl
  have tk2 : List.take 8 (stc s) = stc s := rfl
  have l1 : (cxc c).length = 4 := rfl
  have l2 : (stc s).length = 8 := rfl
  have hx := fun K => get_ext (K := K) hA
  have hzl := zmv_len
  have hzc := zmv_cell
  have tz : List.take 408 zmv = zmv := List.take_of_length_le (by omega)
  have dz : List.drop 408 zmv = [] := List.drop_of_length_le (by omega)
  have hrv : rA p n a = rA p n a := rfl
  have rv0 : ∀ a, (rA p n a).ver = 0 := fun _ => rfl
  generalize hres : mtkA c s p n a = res
  refine CallEx.body (F0 := [(0, .ptr i 0 0), (1, .agg (cxc c)), (2, .agg (stc s))]) Try.func22 rfl Try.ntmps22 Try.results22 rfl (by kernel_rfl) rfl ?_
  (repeat refine PW.seq ?_); refine PW.rg rfl fun K hK => ?_; simp (maxSteps := 3000000) (disch := omega) only [go_sem, ↓reduceIte, reduceCtorEq, pappend, plen, c1, c2, ↓zcMb, Nat.reduceAdd]; refine hK _ _ ?_; clear hK K
  unfold mtkA at hres
  suffices hrest : PW Try.prog _ _ [(0, .ptr i 0 0), (4, .ptr H.length 0 0), (5, .ptr (H.length + 1) 0 0), (6, .ptr (H.length + 2) 0 0), (7, .ptr (H.length + 3) 0 0), (25, .bool (!(vcx c && vstB s)))] (H ++ [⟨38, 0, cxc c⟩, ⟨34, 0, stc s⟩, ⟨49, 0, zmv⟩, ⟨34, 0, stc zSt⟩]) _ by
    cases hv : vcx c with
    | false =>
      rw [hv] at vo hrest
      (repeat refine PW.seq ?_); refine PW.rg rfl fun K hK => ?_; simp (maxSteps := 3000000) (disch := omega) only [go_sem, ↓reduceIte, reduceCtorEq, pappend, plen, hx, rv0, tk1, l1]
      refine VCx.call (vo _) rfl ?_; simp (maxSteps := 3000000) (disch := omega) only [go_sem, ↓reduceIte, reduceCtorEq, pappend, plen]; refine hK _ _ ?_; clear hK K
      exact PW.at [0, 4, 5, 6, 7, 25] hrest rfl rfl
    | true =>
      rw [hv] at vo hrest
      (repeat refine PW.seq ?_); refine PW.rg rfl fun K hK => ?_; simp (maxSteps := 3000000) (disch := omega) only [go_sem, ↓reduceIte, reduceCtorEq, pappend, plen, hx, rv0, tk1, l1]
      refine VCx.call (vo _) rfl ?_; simp (maxSteps := 3000000) (disch := omega) only [go_sem, ↓reduceIte, reduceCtorEq, pappend, plen, tk2, l2]
      refine VCx.call (so _) rfl ?_; simp (maxSteps := 3000000) (disch := omega) only [go_sem, ↓reduceIte, reduceCtorEq, pappend, plen]; refine hK _ _ ?_; clear hK K
      exact PW.at [0, 4, 5, 6, 7, 25] hrest rfl rfl
  cases hval : (vcx c && vstB s) with
  | false =>
    rw [hval, if_neg (by decide)] at hres
    (repeat refine PW.seq ?_); refine PW.cond (t := _) rfl (fun h => ?_) (fun h => ?_)
    rotate_left
    · cases h
    (repeat refine PW.seq ?_); refine PW.rg rfl fun K hK => ?_; simp (maxSteps := 3000000) (disch := omega) only [go_sem, ↓reduceIte, reduceCtorEq, pappend, plen, ↓zcMb, hzl, hzc, tz, dz, stc]; refine hK _ _ ?_; clear hK K
    refine PW.ret ⟨.tup [.agg zmv, .agg (stc zSt), .int .i64 1], by simp (maxSteps := 3000000) (disch := omega) only [go_sem, ↓reduceIte, reduceCtorEq, pappend, plen, presults, presult, List.mapM_cons, List.mapM_nil, Option.pure_def, Option.bind_eq_bind, Option.bind_some, Array.toList, hzl, tz, stc, zSt], ?_⟩
    rw [← hres]
    have := tk_out H i p n a [⟨38, 0, cxc c⟩, ⟨34, 0, stc s⟩, ⟨49, 0, zmv⟩, ⟨34, 0, stc zSt⟩] (.er 0 a) ha
    rw [hself] at this
    exact this
  | true =>
    rw [hval, if_pos rfl] at hres
    rw [Bool.and_eq_true] at hval
    obtain ⟨hq, hv, hd⟩ := vst_b hval.2
    (repeat refine PW.seq ?_); refine PW.cond (t := _) rfl (fun h => ?_) (fun h => ?_)
    · cases h
    refine PW.skip ?_
    (repeat refine PW.seq ?_); refine PW.rg rfl fun K hK => ?_; simp (maxSteps := 3000000) (disch := omega) only [go_sem, ↓reduceIte, reduceCtorEq, pappend, plen, ↓zcMb]; refine hK _ _ ?_; clear hK K
    (repeat refine PW.seq ?_); refine PW.rg rfl fun K hK => ?_; simp (maxSteps := 3000000) (disch := omega) only [go_sem, ↓reduceIte, reduceCtorEq, pappend, plen, tk1, tk2, l1, l2, cxc, stc]; refine hK _ _ ?_; clear hK K
    obtain ⟨X, hXe⟩ : ∃ X : Heap, X = [⟨38, 0, cxc c⟩, ⟨34, 0, stc s⟩, ⟨49, 0, zmv⟩, ⟨34, 0, stc zSt⟩] := ⟨_, rfl⟩
    have hX : X.length = 4 := by rw [hXe]; rfl
    refine PW.at [0, 4, 5, 6, 7, 9, 10] (F1 := [(0, .ptr i 0 0), (4, .ptr H.length 0 0), (5, .ptr (H.length + 1) 0 0), (6, .ptr (H.length + 2) 0 0), (7, .ptr (H.length + 3) 0 0), (9, .ptr (H.length + 4) 0 0), (10, .ptr (H.length + 5) 0 0)]) (H1 := tG H i p n a X (mB zMb) (tB s i c (H.length + 4) false)) ?_ rfl (by unfold tG; rw [hself, hXe]; rfl)
    have nf : (pvc Value.nilFunc).cells = [.nl 0] := rfl
    have hS : Sd n 0 zMb s false a := ⟨zl384_len, ha, fun _ => ⟨rfl, rfl⟩, fun _ => hv, fun _ => hq, fun _ => hd⟩
    (repeat refine PW.seq ?_); refine PW.rg rfl fun K hK => ?_; simp (maxSteps := 3000000) (disch := omega) only [go_sem, ↓reduceIte, reduceCtorEq, pappend, plen, nf]; refine hK _ _ ?_; clear hK K
    (repeat refine PW.seq ?_); refine PW.block (PW.loop ?_)
    suffices hl1 : ∀ (k : Nat) (m : Mb) (s : St) (hl : Bool) (a : Nat), k ≤ 5 → Sd n k m s hl a → Rk c p n k m s hl a = res → PL Try.prog _ _ [(6, .ptr (H.length + 2) 0 0), (7, .ptr (H.length + 3) 0 0), (9, .ptr (H.length + 4) 0 0), (10, .ptr (H.length + 5) 0 0), (32, .slice prts 5 true), (33, .int .i64 5), (34, .int .i64 (k : Int))] (tG H i p n a X (mB m) (tB s i c (H.length + 4) hl)) _ by
      exact PL.at [6, 7, 9, 10, 32, 33, 34] (hl1 0 zMb s false a (by omega) hS hres) rfl rfl
    clear hres hS hv hq hd
    have hpl : prts.length = 5 := rfl
    have gE : ∀ m s hl a, (tG H i p n a X (mB m) (tB s i c (H.length + 4) hl))[H.length + 2]? = some ⟨49, 0, zmv⟩ ∧ (tG H i p n a X (mB m) (tB s i c (H.length + 4) hl))[H.length + 3]? = some ⟨34, 0, stc zSt⟩ := fun m s hl a => by
      unfold tG
      rw [hXe]
      exact ⟨by rw [List.getElem?_append_right (by simp), List.length_set, show H.length + 2 - H.length = 2 by omega]; rfl, by rw [List.getElem?_append_right (by simp), List.length_set, show H.length + 3 - H.length = 3 by omega]; rfl⟩
    have ao := fun s k K => aft_ok s k K
    intro k m s hl a hk hS hR
    induction hd : 5 - k using Nat.strongRecOn generalizing k m s hl a with
    | _ d ih =>
      refine PL.round ?_; (repeat refine PW.seq ?_); refine PW.rg rfl fun K hK => ?_; simp (maxSteps := 3000000) (disch := omega) only [go_sem, ↓reduceIte, reduceCtorEq, pappend, plen]; refine hK _ _ ?_; clear hK K
      (repeat refine PW.seq ?_); refine PW.cond (t := _) rfl (fun h => ?_) (fun h => ?_)
      · have h5 : k < 5 := by have := of_decide_eq_true h; omega
        obtain ⟨f, hf, hc⟩ := disp H i p n X c hi hX hn hp k h5 m s hl a res hS hR
        refine PW.skip ?_; (repeat refine PW.seq ?_); refine PW.block ?_
        (repeat refine PW.seq ?_); refine PW.rg rfl fun K hK => ?_; simp (maxSteps := 3000000) (disch := omega) only [go_sem, ↓reduceIte, reduceCtorEq, pappend, plen, hf, hpl]; refine hK _ _ ?_; clear hK K
        (repeat refine PW.seq ?_); refine PW.rg rfl fun K hK => ?_; simp (maxSteps := 3000000) (disch := omega) only [go_sem, ↓reduceIte, reduceCtorEq, pappend, plen]
        refine VCx.callR hc rfl fun v H' hQ => ?_
        rcases hQ with ⟨m', s', hl', a', rfl, hS', hR', rfl⟩ | ⟨e, a0, hre, rfl, a', m', s', hl', ha', hml', rfl⟩
        · simp (maxSteps := 3000000) (disch := omega) only [go_sem, ↓reduceIte, reduceCtorEq, pappend, plen]; refine hK _ _ ?_; clear hK K
          (repeat refine PW.seq ?_); refine PW.rg rfl fun K hK => ?_; simp (maxSteps := 3000000) (disch := omega) only [go_sem, ↓reduceIte, reduceCtorEq, pappend, plen]; refine hK _ _ ?_; clear hK K
          (repeat refine PW.seq ?_); refine PW.cond (t := _) rfl (fun h => ?_) (fun h => ?_)
          · cases h
          refine PW.skip ?_
          (repeat refine PW.seq ?_); refine PW.rg rfl fun K hK => ?_; simp (maxSteps := 3000000) (disch := omega) only [go_sem, ↓reduceIte, reduceCtorEq, pappend, plen]; refine hK _ _ ?_; clear hK K
          exact PL.at [6, 7, 9, 10, 32, 33, 34] (ih (5 - (k + 1)) (by omega) (k + 1) m' s' hl' a' (by omega) hS' hR' rfl) rfl rfl
        · have d0 : ((e : Int) + 1 != 0) = true := by simp; omega
          obtain ⟨ge1, ge2⟩ := gE m' s' hl' a'
          have se1 := set_self ge1
          have se2 := set_self ge2
          have lst : (stc zSt).length = 8 := rfl
          simp (maxSteps := 3000000) (disch := omega) only [go_sem, ↓reduceIte, reduceCtorEq, pappend, plen, ecd]; refine hK _ _ ?_; clear hK K
          (repeat refine PW.seq ?_); refine PW.rg rfl fun K hK => ?_; simp (maxSteps := 3000000) (disch := omega) only [go_sem, ↓reduceIte, reduceCtorEq, pappend, plen, d0]; refine hK _ _ ?_; clear hK K
          (repeat refine PW.seq ?_); refine PW.cond (t := _) rfl (fun h => ?_) (fun h => ?_)
          rotate_left
          · cases h
          (repeat refine PW.seq ?_); refine PW.rg rfl fun K hK => ?_; simp (maxSteps := 3000000) (disch := omega) only [go_sem, ↓reduceIte, reduceCtorEq, pappend, plen, ↓zcMb, ge1, ge2, hzl, hzc, dz, lst, se1]; refine hK _ _ ?_; clear hK K
          refine PW.at [6, 7, 8] (F1 := [(6, .ptr (H.length + 2) 0 0), (7, .ptr (H.length + 3) 0 0), (8, .int .i64 ((e : Int) + 1))]) (H1 := tG H i p n a' X (mB m') (tB s' i c (H.length + 4) hl')) ?_ rfl se2
          have tst : List.take 8 (stc zSt) = stc zSt := rfl
          refine PW.ret ⟨.tup [.agg zmv, .agg (stc zSt), .int .i64 ((e : Int) + 1)], by simp (maxSteps := 3000000) (disch := omega) only [go_sem, ↓reduceIte, reduceCtorEq, pappend, plen, presults, presult, List.mapM_cons, List.mapM_nil, Option.pure_def, Option.bind_eq_bind, Option.bind_some, Array.toList, ge1, ge2, hzl, tz, lst, tst], ?_⟩
          rw [hre]
          exact tk_out H i p n a' (X ++ [mB m', tB s' i c (H.length + 4) hl']) (.er e a0) ha'
      · have h5 : k = 5 := by have := of_decide_eq_false h; omega
        subst h5
        refine PW.exit ?_
        simp only [Rk] at hR
        have ml := hS.l
        have hlm := mbc_len m ml
        have htm : List.take 408 (mbc m) = mbc m := List.take_of_length_le (by omega)
        have hcm := mbc_cell m
        have g5 := fun B4 B5 => tG_5 H i p n a X B4 B5 hX
        have g4 := fun B4 B5 => tG_4 H i p n a X B4 B5 hX
        obtain ⟨ge1, ge2⟩ := gE m s hl a
        have gX2 := fun Y B4 B5 B hY => tG_sX H i p n a Y B4 B5 B 2 hY (by omega)
        have gX3 := fun Y B4 B5 B hY => tG_sX H i p n a Y B4 B5 B 3 hY (by omega)
        have tcs : List.take 8 (tC s i c (H.length + 4) hl) = stc s := rfl
        have lst : ∀ t, (stc t).length = 8 := fun _ => rfl
        have cst : ∀ t, (stc t).all PV.cell = true := fun _ => rfl
        have ao1 := fun K => ao s m.k K
        have e3 : (tG H i p n a (X.set 2 (mB m)) (mB m) (tB s i c (H.length + 4) hl))[H.length + 3]? = some ⟨34, 0, stc zSt⟩ := by
          rw [tG_gX _ _ _ _ _ _ _ _ _ (by rw [List.length_set]; exact hX) (by omega), hXe]; rfl
        have hw2 := gX2 X (mB m) (tB s i c (H.length + 4) hl) (mB m) hX
        have hw3 := gX3 (X.set 2 (mB m)) (mB m) (tB s i c (H.length + 4) hl) ⟨34, 0, stc (aft s m.k)⟩ (by rw [List.length_set]; exact hX)
        have dst : List.drop 8 (stc zSt) = [] := rfl
        (repeat refine PW.seq ?_); refine PW.draw mix (by kernel_rfl) fun K hK => ?_; simp (maxSteps := 3000000) (disch := omega) only [go_sem, ↓reduceIte, reduceCtorEq, pappend, plen, g5, g4, tB_v, tB_c, mB_v, mB_c, mbc_k, hlm, htm, tcs, tC_len]
        refine VCy.call (ao1 _) rfl ?_; simp (maxSteps := 3000000) (disch := omega) only [go_sem, ↓reduceIte, reduceCtorEq, pappend, plen, ge1, ge2, hzl, dz, hlm, hcm, mB_of, hw2, e3, lst, cst, dst, hw3]
        refine hK _ _ ?_; clear hK K
        have hX2 : ((X.set 2 (mB m)).set 3 ⟨34, 0, stc (aft s m.k)⟩).length = 4 := by rw [List.length_set, List.length_set]; exact hX
        have f2 : (tG H i p n a ((X.set 2 (mB m)).set 3 ⟨34, 0, stc (aft s m.k)⟩) (mB m) (tB s i c (H.length + 4) hl))[H.length + 2]? = some (mB m) := by
          rw [tG_gX _ _ _ _ _ _ _ _ _ hX2 (by omega), hXe]; rfl
        have f3 : (tG H i p n a ((X.set 2 (mB m)).set 3 ⟨34, 0, stc (aft s m.k)⟩) (mB m) (tB s i c (H.length + 4) hl))[H.length + 3]? = some ⟨34, 0, stc (aft s m.k)⟩ := by
          rw [tG_gX _ _ _ _ _ _ _ _ _ hX2 (by omega), hXe]; rfl
        have tst : ∀ t, List.take 8 (stc t) = stc t := fun _ => rfl
        refine PW.ret ⟨.tup [.agg (mbc m), .agg (stc (aft s m.k)), .int .i64 0], by simp (maxSteps := 3000000) (disch := omega) only [go_sem, ↓reduceIte, reduceCtorEq, pappend, plen, presults, presult, List.mapM_cons, List.mapM_nil, Option.pure_def, Option.bind_eq_bind, Option.bind_some, Array.toList, f2, f3, mB_v, mB_c, hlm, htm, lst, tst], ?_⟩
        rw [← hR]
        exact tk_out H i p n a (((X.set 2 (mB m)).set 3 ⟨34, 0, stc (aft s m.k)⟩) ++ [mB m, tB s i c (H.length + 4) hl]) (.ok (m, aft s m.k) a) rfl

end Go.Proofs.Ytcabpncdgagihaa.Sc

namespace Go.Proofs.Ytcabpncdgagihaa.Sc
set_option linter.all false
set_option linter.unusedVariables false
set_option linter.unusedSimpArgs false
open Pm Ty Go.RowKit

/-- The bits L stand at place a. -/
def Rd (q : List UInt8) (n a : Nat) (L : List Bool) : Prop := a + L.length ≤ n ∧ ∀ k, k < L.length → ubit q (a + k) = bn L k
section
variable {q : List UInt8} {n a : Nat}
theorem Rd.l {L M : List Bool} (h : Rd q n a (L ++ M)) : Rd q n a L := by
  have := h.1
  rw [List.length_append] at this
  exact ⟨by omega, fun k hk => by rw [h.2 k (by rw [List.length_append]; omega), bn_left _ _ _ hk]⟩
theorem Rd.r {L M : List Bool} (h : Rd q n a (L ++ M)) : Rd q n (a + L.length) M := by
  have := h.1
  rw [List.length_append] at this
  exact ⟨by omega, fun k hk => by
    have h2 := h.2 (L.length + k) (by rw [List.length_append]; omega)
    rw [bn_right _ _ _ (by omega), show L.length + k - L.length = k by omega] at h2
    rw [Nat.add_assoc]; exact h2⟩
theorem tkF_rd {b : Bool} (h : Rd q n a [b]) : tkF q n a = .ok b (a + 1) := by
  have h1 := h.1
  have h2 := h.2 0 (by simp)
  rw [Nat.add_zero] at h2
  unfold tkF
  rw [if_pos (by simp at h1; omega), h2]
  cases b <;> rfl
theorem zrs_rd : ∀ (c k a : Nat), (∀ j, j < k → a + j < n ∧ ubit q (a + j) = 0) → ubit q (a + k) = 1 → k < c → zrs q n c a = k
  | 0, k, a, _, _, hc => by omega
  | c + 1, 0, a, _, h1, _ => zrs_one (by simpa using h1)
  | c + 1, k + 1, a, h0, h1, hc => by
    have := h0 0 (by omega)
    rw [Nat.add_zero] at this
    rw [zrs_step this.1 this.2, zrs_rd c k (a + 1) (fun j hj => by
      have := h0 (j + 1) (by omega)
      rw [show a + 1 + j = a + (j + 1) by omega]; exact this) (by rw [show a + 1 + k = a + (k + 1) by omega]; exact h1) (by omega)]
theorem tkU_rd {v : Nat} (hv : v ≤ 65534) (h : Rd q n a (eg v)) : tkU q n a = .ok v (a + (eg v).length) := by
  have hk := log2_b v hv
  have hl1 := Nat.log2_self_le (n := v + 1) (by omega)
  have hl2 := @Nat.lt_log2_self (v + 1)
  have hlen : (eg v).length = 2 * Nat.log2 (v + 1) + 1 := by simp [eg, vbits_len]; omega
  have e0 := h.l
  have e1 := h.r
  rw [hlen]
  rw [vbits_len] at e1
  have hn := h.1
  rw [hlen] at hn
  generalize Nat.log2 (v + 1) = k at *
  have hz : zrs q n 16 a = k := by
    refine zrs_rd 16 k a (fun j hj => ⟨by omega, ?_⟩) ?_ (by omega)
    · rw [e0.2 j (by rw [vbits_len]; exact hj), bn_vbits _ _ _ hj, Nat.zero_div]
    · have := e1.2 0 (by rw [vbits_len]; omega)
      rw [Nat.add_zero, bn_vbits _ _ _ (by omega), show k + 1 - 1 - 0 = k by omega] at this
      rw [this]
      have h3 : (v + 1) / 2 ^ k < 2 := by rw [Nat.div_lt_iff_lt_mul (Nat.pow_pos (by omega))]; rw [Nat.pow_succ] at hl2; omega
      have h4 : 1 ≤ (v + 1) / 2 ^ k := by rw [Nat.le_div_iff_mul_le (Nat.pow_pos (by omega))]; omega
      omega
  have hv1 : vl q (a + k) (k + 1) = v + 1 := vl_all q (a + k) (k + 1) (v + 1) hl2 fun i hi => by rw [e1.2 i (by rw [vbits_len]; exact hi), bn_vbits _ _ _ hi]
  have hv2 : vl q (a + k) (1 + k) = ubit q (a + k) * 2 ^ k + vl q (a + k + 1) k := by rw [vl_add]; simp [vl]
  have hu1 : ubit q (a + k) = 1 := by
    have := zrs_at (q := q) (n := n) 16 a (by omega) (by omega)
    rwa [hz] at this
  rw [Nat.add_comm 1 k, hv1, hu1, Nat.one_mul] at hv2
  unfold tkU
  rw [hz, if_neg (by omega), if_neg (by omega), ← hv2]
  congr 1
theorem usg_fld (v : Int) : usg (fld v) = v := by
  unfold usg fld
  split
  · rw [if_pos (by omega)]; omega
  · rw [if_neg (by omega)]; omega
theorem tkS_rd {v : Int} (hv : -32767 ≤ v ∧ v ≤ 32767) (h : Rd q n a (sg v)) : tkS q n a = .ok v (a + (sg v).length) := by
  unfold tkS
  rw [tkU_rd (fld_b v hv) h, Rr.bind_ok, usg_fld]; rfl
theorem tkD_rd {pr v : Int} {most : Nat} (hv : win v most = true) (hr : -32767 ≤ v - pr ∧ v - pr ≤ 32767) (h : Rd q n a (sg (v - pr))) : tkD q n pr most a = .ok v (a + (sg (v - pr)).length) := by
  unfold tkD
  rw [tkS_rd hr h, Rr.bind_ok, show pr + (v - pr) = v by omega, if_pos hv]
/-- The levels from position p on, laid into l. -/
def fillL (bl : List Int) : Nat → Nat → List Int → List Int
  | 0, _, l => l
  | r + 1, p, l => if intAt bl p = 0 then fillL bl r (p + 1) l else fillL bl r (p + 1) (l.set p (intAt bl p))
theorem tkB_rd {bl : List Int} (hbl : inrB bl) : ∀ (r p at' f a : Nat) (l : List Int), p + r = 64 → at' ≤ p → 64 < at' + f → Rd q n a (bkR bl r p at') → tkB q n f at' a l = .ok (fillL bl r p l) (a + (bkR bl r p at').length)
  | 0, p, at', f, a, l, hp, ha, hf, h => by
    obtain ⟨f', rfl⟩ : ∃ f', f = f' + 1 := ⟨f - 1, by omega⟩
    simp only [tkB, bkR, fillL] at h ⊢
    rw [tkU_rd (by omega) h, Rr.bind_ok, if_pos rfl]
  | r + 1, p, at', f, a, l, hp, ha, hf, h => by
    by_cases h0 : intAt bl p = 0
    · simp only [bkR, fillL, if_pos h0] at h ⊢
      exact tkB_rd hbl r (p + 1) at' f a l (by omega) (by omega) hf h
    · obtain ⟨f', rfl⟩ : ∃ f', f = f' + 1 := ⟨f - 1, by omega⟩
      simp only [bkR, fillL, if_neg h0] at h ⊢
      have w := win_b (hbl p (by omega))
      rw [tkB, tkU_rd (by omega) h.l, Rr.bind_ok, if_neg (by omega), if_neg (by omega), tkS_rd (by omega) h.r.l, Rr.bind_ok, if_neg h0, hbl p (by omega), if_neg (by decide)]
      rw [show at' + (p + 1 - at') = p + 1 by omega, show p + 1 - 1 = p by omega]
      rw [tkB_rd hbl r (p + 1) (p + 1) f' _ _ (by omega) (by omega) (by omega) h.r.r]
      congr 1
      simp only [List.length_append]; omega
theorem fillL_len (bl : List Int) : ∀ (r p : Nat) (l : List Int), (fillL bl r p l).length = l.length
  | 0, p, l => rfl
  | r + 1, p, l => by
    simp only [fillL]; split
    · exact fillL_len bl r _ l
    · rw [fillL_len bl r _ _, List.length_set]
theorem fillL_at (bl : List Int) : ∀ (r p : Nat) (l : List Int) (x : Nat), x < l.length → intAt (fillL bl r p l) x = if p ≤ x ∧ x < p + r ∧ intAt bl x ≠ 0 then intAt bl x else intAt l x
  | 0, p, l, x, hx => by simp only [fillL]; rw [if_neg (by omega)]
  | r + 1, p, l, x, hx => by
    simp only [fillL]
    split
    · rename_i h0
      rw [fillL_at bl r (p + 1) l x hx]
      by_cases e : x = p
      · subst e; rw [if_neg (by omega), if_neg (by simp [h0])]
      · by_cases h : p + 1 ≤ x ∧ x < p + 1 + r ∧ intAt bl x ≠ 0
        · rw [if_pos h, if_pos ⟨by omega, by omega, h.2.2⟩]
        · rw [if_neg h, if_neg fun h2 => h ⟨by omega, by omega, h2.2.2⟩]
    · rename_i h0
      rw [fillL_at bl r (p + 1) _ x (by rw [List.length_set]; exact hx)]
      by_cases e : x = p
      · subst e
        rw [if_neg (by omega), if_pos ⟨by omega, by omega, h0⟩]
        simp [intAt, hx]
      · have hne : intAt (l.set p (intAt bl p)) x = intAt l x := by simp [intAt, List.getElem?_set_ne (Ne.symm e)]
        rw [hne]
        by_cases h : p + 1 ≤ x ∧ x < p + 1 + r ∧ intAt bl x ≠ 0
        · rw [if_pos h, if_pos ⟨by omega, by omega, h.2.2⟩]
        · rw [if_neg h, if_neg fun h2 => h ⟨by omega, by omega, h2.2.2⟩]
theorem ext_int {l m : List Int} (hl : l.length = m.length) (h : ∀ x, x < l.length → intAt l x = intAt m x) : l = m := by
  apply List.ext_getElem hl
  intro x h1 h2
  have := h x h1
  simpa [intAt, h1, h2] using this
theorem tkBl_rd {bl : List Int} {fr : Nat} (hbl : inrB bl) (hl : bl.length = 64) (hfr : fr ≤ 1) (h : Rd q n a (bkc bl fr)) : tkBl q n fr a = .ok (if fr = 0 then bl else bl.set 0 0) (a + (bkc bl fr).length) := by
  unfold tkBl
  rw [tkB_rd hbl (64 - fr) fr fr 65 a z64 (by omega) (Nat.le_refl _) (by omega) h]
  congr 1
  have hz : z64.length = 64 := by simp [z64]
  have hz0 : ∀ x, intAt z64 x = 0 := fun x => by
    unfold intAt z64
    rw [List.getD_eq_getElem?_getD, List.getElem?_replicate]
    split <;> rfl
  have h1 : fr = 0 ∨ fr = 1 := by omega
  rcases h1 with rfl | rfl
  · rw [if_pos rfl]
    refine ext_int (by rw [fillL_len, hz, hl]) fun x hx => ?_
    rw [fillL_len, hz] at hx
    rw [fillL_at _ _ _ _ _ (by omega), hz0]
    by_cases e : intAt bl x = 0
    · rw [if_neg (by simp [e]), e]
    · rw [if_pos ⟨by omega, by omega, e⟩]
  · rw [if_neg (by omega)]
    refine ext_int (by rw [fillL_len, List.length_set, hz, hl]) fun x hx => ?_
    rw [fillL_len, hz] at hx
    rw [fillL_at _ _ _ _ _ (by omega), hz0]
    by_cases e0 : x = 0
    · subst e0
      rw [if_neg (by omega)]
      simp [intAt, hl]
    · have hne : intAt (bl.set 0 0) x = intAt bl x := by simp [intAt, List.getElem?_set_ne (Ne.symm e0)]
      rw [hne]
      by_cases e : intAt bl x = 0
      · rw [if_neg (by simp [e]), e]
      · rw [if_pos ⟨by omega, by omega, e⟩]
end

end Go.Proofs.Ytcabpncdgagihaa.Sc

namespace Go.Proofs.Ytcabpncdgagihaa.Sc
set_option linter.all false
set_option linter.unusedVariables false
set_option linter.unusedSimpArgs false
open Pm Ty Go.RowKit

theorem win63 {x : Int} (h : -63 ≤ x ∧ x ≤ 63) : win x 63 = true := by simp [win]; omega
/-- One vector, laid into a macroblock. -/
def stV (m : Mb) (d k : Nat) (m0 : Mb) : Mb := setVm (setSl m0 d k (slm m d k)) d k (vXm m d k) (vYm m d k)
def dirM (m : Mb) (d : Nat) (m0 : Mb) : Mb := if usd m d then (if m.fp then stV m d 1 (stV m d 0 m0) else stV m d 0 m0) else m0
theorem stV_same (m : Mb) (d k : Nat) (m0 : Mb) : SameU m0 (stV m d k m0) := (setSl_same _ _ _ _).trans (setVm_same _ _ _ _ _)
section
variable {q : List UInt8} {n a : Nat} {c : Cx} {m : Mb} {s : St}
theorem tkVc_rd {m0 : Mb} {d k : Nat} (hm : vrM m) (hs : vrS s) (hf : m0.fp = m.fp) (h1 : (m.fp || fcx c) = true → slm m d k = 0 ∨ slm m d k = 1) (h0 : (m.fp || fcx c) = false → setSl m0 d k (slm m d k) = m0) (h : Rd q n a (vec1 c m s d k)) :
    tkVc c q n m0 s d k a = .ok (stV m d k m0, setV s d (vXm m d k) (vYm m d k)) (a + (vec1 c m s d k).length) := by
  have x1 := (hm d k).1
  have x2 := (hm d k).2
  have y1 := (hs d).1
  have y2 := (hs d).2
  unfold tkVc
  unfold vec1 at h ⊢
  rw [hf]
  cases hb : (m.fp || fcx c) with
  | true =>
    rw [hb, if_pos rfl] at h
    rw [if_pos rfl, if_pos rfl, tkF_rd h.l, Rr.bind_ok, Rr.bind_ok]
    have h3 := h.r
    rw [List.length_singleton] at h3
    rw [tkD_rd (win63 x1) (by omega) h3.l, Rr.bind_ok, tkD_rd (win63 x2) (by omega) h3.r, Rr.bind_ok]
    have hsl : ((decide (slm m d k = 1)).toNat : Int) = slm m d k := by
      rcases h1 hb with e | e <;> rw [e] <;> rfl
    rw [hsl]
    unfold stV
    congr 1
    simp only [List.length_append, List.length_singleton]; omega
  | false =>
    rw [hb, if_neg (by decide), List.nil_append] at h
    rw [if_neg (by decide), if_neg (by decide), Rr.bind_ok, tkD_rd (win63 x1) (by omega) h.l, Rr.bind_ok, tkD_rd (win63 x2) (by omega) h.r, Rr.bind_ok]
    unfold stV
    rw [h0 hb]
    congr 1
    simp only [List.length_append, List.nil_append]; omega
theorem tkDr_rd {m0 : Mb} {d : Nat} (hm : vrM m) (hs : vrS s) (hU : m0.ua = m.ua ∧ m0.ub = m.ub ∧ m0.fp = m.fp) (h1 : usd m d = true → (m.fp || fcx c) = true → ∀ k, k < 2 → slm m d k = 0 ∨ slm m d k = 1) (h0 : usd m d = true → (m.fp || fcx c) = false → setSl m0 d 0 (slm m d 0) = m0) (h : Rd q n a (dirB c m s d).1) :
    tkDr c q n m0 s d a = .ok (dirM m d m0, (dirB c m s d).2) (a + (dirB c m s d).1.length) := by
  have hus : usd m0 d = usd m d := by unfold usd; rw [hU.1, hU.2.1]
  have hnv : nvM m0 = nvM m := by unfold nvM; rw [hU.2.2]
  unfold tkDr
  unfold dirB at h ⊢
  unfold dirM
  rw [hus, hnv]
  cases hu : usd m d with
  | false => rfl
  | true =>
    rw [hu, if_pos rfl] at h
    simp only [if_true] at h ⊢
    cases hf : m.fp with
    | false =>
      have e1 : nvM m = 1 := by unfold nvM; rw [hf]; rfl
      rw [e1] at h ⊢
      simp only [vecsR, e1, Nat.sub_self, Nat.zero_add] at h ⊢
      simp only [tkVs]
      rw [tkVc_rd hm hs hU.2.2 (fun e => h1 hu e 0 (by omega)) (h0 hu) h.l, Rr.bind_ok, List.append_nil, if_neg (by decide)]
    | true =>
      have e1 : nvM m = 2 := by unfold nvM; rw [hf]; rfl
      rw [e1] at h ⊢
      simp only [vecsR, e1, Nat.sub_self, Nat.zero_add, Nat.add_sub_cancel, List.append_nil, Nat.reduceAdd, Nat.reduceSub] at h ⊢
      simp only [tkVs]
      have hno : ∀ m0' : Mb, (m.fp || fcx c) = false → setSl m0' d 1 (slm m d 1) = m0' := fun m0' e => by rw [hf] at e; cases e
      rw [tkVc_rd hm hs hU.2.2 (fun e => h1 hu e 0 (by omega)) (h0 hu) h.l, Rr.bind_ok]
      dsimp only
      rw [tkVc_rd hm (vrS_set hm hs d 0) ((stV_same m d 0 m0).2.2.2.1.trans hU.2.2) (fun e => h1 hu e 1 (by omega)) (hno _) h.r, Rr.bind_ok, if_pos trivial]
      congr 1
      simp only [List.length_append]; omega
end

/-- A macroblock with its vectors, before the levels. -/
def mP (m : Mb) : Mb := ⟨2, m.ua, m.ub, m.fp, false, m.va, m.vb, m.vc, m.vd, m.ve, m.vf, m.vg, m.vh, m.sa, m.sb, m.sc, m.sd, 0, false, false, false, false, false, false, zl384⟩
structure Itr (c : Cx) (m : Mb) : Prop where
  t : ¬c.t = 1
  u : (m.ua || m.ub) = true
  p : c.t = 2 → m.ua = true ∧ m.ub = false
  f : m.fp = true → bcx c = true
  a : dirS c m.fp m.ua m.va m.vb m.vc m.vd m.sa m.sb = true
  b : dirS c m.fp m.ub m.ve m.vf m.vg m.vh m.sc m.sd = true
  h : fch c m = true
  k : fbl (cdl m) m.lv = true
theorem itr_of {c : Cx} {m : Mb} (hk : m.k = 2) (h : fmS c m = true) : Itr c m := by
  unfold fmS at h
  rw [if_neg (by omega), if_neg (by omega), if_pos hk, Bool.and_eq_true] at h
  by_cases ht : c.t = 1
  · rw [intS_I c m ht] at h; cases h.2
  · have h2 := h.2
    rw [intS_eq c m hk ht] at h2
    simp only [Bool.and_eq_true, fprd, d0S, d1S, Bool.not_eq_true'] at h2
    obtain ⟨⟨h3, h4, h5, h6⟩, hf, hb, hl⟩ := h2
    unfold useB at h3
    simp only [Bool.or_eq_false_iff, Bool.and_eq_false_iff, decide_eq_false_iff_not, Bool.not_eq_false'] at h3
    obtain ⟨g1, g2⟩ := h3
    refine ⟨ht, ?_, fun e => ?_, fun e => ?_, h5, h6, hf, hb⟩
    · cases hua : m.ua <;> cases hub : m.ub <;> simp_all
    · rcases g1 with g1 | g1
      · exact absurd e g1
      · simpa using g1
    · cases hb2 : bcx c with
      | true => rfl
      | false => rw [e, hb2] at h4; cases h4
theorem fl_of {m : Mb} (h : fbl (cdl m) m.lv = true) (j : Nat) (hj : j < 6) : flagAt (cdl m) j = !zbk m.lv j := by
  have := List.all_eq_true.1 h j (List.mem_range.2 hj)
  cases h1 : flagAt (cdl m) j <;> cases h2 : zbk m.lv j <;> rw [h1, h2] at this <;> simp_all
set_option maxHeartbeats 1000000 in
theorem dirs_eq (c : Cx) (m : Mb) (v : Nat) (h : Itr c m) (hv : v = numM c m) (hk : m.k = 2) : dirM m 1 (dirM m 0 { peMb v with fp := m.fp }) = mP m ∧ (peMb v).ua = m.ua ∧ (peMb v).ub = m.ub ∧ decide (v % 2 = 0) = hlM m ∧ 0 < v ∧ v < 7 ∧ (c.t = 2 → v < 3) := by
  obtain ⟨h1, h2, h3, h4, h5, h6, _⟩ := h
  have hn : numM c m = (if m.ua && !m.ub then 1 else if !m.ua && m.ub then 3 else 5) + (hlM m).toNat := by unfold numM; rw [if_neg (by omega), if_pos hk]
  rw [hn] at hv
  generalize hlM m = hl at *
  obtain ⟨k, ua, ub, fp, fd, va, vb, vc, vd, ve, vf, vg, vh, sa, sb, sc, sd, dl, ca, cb, cc, cd, ce, cf, lv⟩ := m
  simp only at *
  subst hk
  cases ua <;> cases ub <;> cases fp <;> cases hl <;>
    simp only [dirS, Bool.false_eq_true, if_false, if_true, Bool.and_eq_true, decide_eq_true_eq, Bool.or_eq_true, Bool.true_and, Bool.false_and, Bool.not_true, Bool.not_false, Bool.and_true, Bool.and_false, Bool.true_or, Bool.false_or, and_true, true_and, Bool.toNat_true, Bool.toNat_false, reduceCtorEq, false_or] at * <;>
    subst hv <;>
    simp_all [dirM, stV, usd, setVm, setSl, slm, vXm, vYm, mP, peMb]
theorem sel_of {c : Cx} {m : Mb} (h : Itr c m) (d : Nat) (hd : d < 2) : usd m d = true → ((∀ k, k < 2 → slm m d k = 0 ∨ slm m d k = 1) ∧ ((m.fp || fcx c) = false → slm m d 0 = 0)) := fun hu => by
  obtain ⟨_, _, _, _, h5, h6, _⟩ := h
  have h2 : d = 0 ∨ d = 1 := by omega
  have h3 : ∀ k, k < 2 → k = 0 ∨ k = 1 := fun k hk => by omega
  rcases h2 with rfl | rfl
  · simp only [usd, if_true] at hu
    rw [hu] at h5
    simp only [dirS, if_true, Bool.and_eq_true, Bool.or_eq_true, decide_eq_true_eq] at h5
    refine ⟨fun k hk => ?_, fun e => ?_⟩
    · rcases h3 k hk with rfl | rfl
      · exact h5.2.2.1
      · exact h5.2.2.2.1
    · rw [Bool.or_eq_false_iff] at e
      have := h5.2.2.2.2.2
      rw [e.1, e.2] at this
      simpa [slm] using this
  · simp only [usd, if_neg (show ¬(1 : Nat) = 0 by omega)] at hu
    rw [hu] at h6
    simp only [dirS, if_true, Bool.and_eq_true, Bool.or_eq_true, decide_eq_true_eq] at h6
    refine ⟨fun k hk => ?_, fun e => ?_⟩
    · rcases h3 k hk with rfl | rfl
      · exact h6.2.2.1
      · exact h6.2.2.2.1
    · rw [Bool.or_eq_false_iff] at e
      have := h6.2.2.2.2.2
      rw [e.1, e.2] at this
      simpa [slm] using this

end Go.Proofs.Ytcabpncdgagihaa.Sc

namespace Go.Proofs.Ytcabpncdgagihaa.Sc
set_option linter.all false
set_option linter.unusedVariables false
set_option linter.unusedSimpArgs false
open Pm Ty Go.RowKit

theorem setSl_a (x : Mb) (h : x.sa = 0) : setSl x 0 0 0 = x := by
  cases x; simp only at h; subst h; rfl
theorem setSl_c (x : Mb) (h : x.sc = 0) : setSl x 1 0 0 = x := by
  cases x; simp only at h; subst h; rfl
theorem dirM_sc (m m0 : Mb) : (dirM m 0 m0).sc = m0.sc := by
  unfold dirM
  split
  · split <;> rfl
  · rfl
theorem dirM_same (m : Mb) (d : Nat) (m0 : Mb) : SameU m0 (dirM m d m0) := by
  unfold dirM
  split
  · split
    · exact (stV_same _ _ _ _).trans (stV_same _ _ _ _)
    · exact stV_same _ _ _ _
  · exact .refl _
section
variable {q : List UInt8} {n a : Nat} {c : Cx} {m : Mb} {s : St}
theorem tkPr_rd (hk : m.k = 2) (hI : Itr c m) (hm : vrM m) (hs : vrS s) (h : Rd q n a (b2M c m s)) : tkPr c q n (peMb (numM c m)) s a = .ok (mP m, s2M c m s) (a + (b2M c m s).length) := by
  obtain ⟨e1, e2, e3, _⟩ := dirs_eq c m (numM c m) hI rfl hk
  unfold tkPr
  rw [if_pos (show (peMb (numM c m)).k = 2 from rfl)]
  suffices hr : ∀ a', Rd q n a' (dirsR c m 2 s).1 → tkDs c q n 2 0 { peMb (numM c m) with fp := m.fp } s a' = .ok (mP m, s2M c m s) (a' + (dirsR c m 2 s).1.length) by
    unfold b2M at h ⊢
    rw [if_pos hk] at h ⊢
    cases hb : bcx c with
    | true =>
      rw [hb, if_pos rfl] at h
      have h3 := h.r
      rw [List.length_singleton] at h3
      rw [if_pos rfl, if_pos rfl, tkF_rd h.l, Rr.bind_ok, Rr.bind_ok, hr _ h3]
      congr 1
      simp only [List.length_append, List.length_singleton]; omega
    | false =>
      rw [hb, if_neg (by decide), List.nil_append] at h
      have hf : m.fp = false := by
        cases hfp : m.fp with
        | false => rfl
        | true => have := hI.f hfp; rw [hb] at this; cases this
      rw [if_neg (by decide), if_neg (by decide), Rr.bind_ok, List.nil_append]
      have := hr a h
      rw [hf] at this
      exact this
  intro a' h'
  simp only [dirsR, Nat.sub_self, Nat.sub_zero, List.append_nil, Nat.reduceSub] at h' ⊢
  simp only [tkDs]
  have s0 := fun hu => sel_of hI 0 (by omega) hu
  have s1 := fun hu => sel_of hI 1 (by omega) hu
  rw [tkDr_rd (m0 := { peMb (numM c m) with fp := m.fp }) (d := 0) hm hs ⟨e2, e3, rfl⟩ (fun hu _ => (s0 hu).1) (fun hu e => by rw [(s0 hu).2 e]; exact setSl_a _ rfl) h'.l, Rr.bind_ok]
  have hd1 := (dirB_len (c := c) hm hs 0).2
  have sd := dirM_same m 0 { peMb (numM c m) with fp := m.fp }
  dsimp only
  rw [tkDr_rd (d := 1) hm hd1 ⟨sd.2.1.trans e2, sd.2.2.1.trans e3, sd.2.2.2.1⟩ (fun hu _ => (s1 hu).1) (fun hu e => by rw [(s1 hu).2 e]; exact setSl_c _ (dirM_sc _ _)) h'.r, Rr.bind_ok]
  dsimp only
  rw [e1]
  unfold s2M
  rw [if_pos hk]
  simp only [dirsR, Nat.sub_self, Nat.sub_zero, Nat.reduceSub]
  congr 1
  simp only [List.length_append]; omega
theorem tkCh_rd {m0 : Mb} (hfc : fch c m = true) (hq : vqB (s.q + m.dl) = true) (h1 : m0.fd = false) (h2 : m0.dl = 0) (h : Rd q n a (b3M c m)) : tkCh c q n (hlM m) m0 s a = .ok ({ m0 with fd := m.fd, dl := m.dl }, s3M m s) (a + (b3M c m).length) := by
  unfold tkCh
  unfold b3M at h ⊢
  unfold s3M
  unfold fch at hfc
  cases hh : hlM m with
  | false =>
    rw [hh, if_neg (by decide)] at hfc
    simp only [Bool.and_eq_true, Bool.not_eq_true', decide_eq_true_eq] at hfc
    rw [if_neg (by decide), if_neg (by decide), if_neg (by decide), hfc.1, hfc.2]
    cases m0
    simp only at h1 h2
    subst h1 h2
    rfl
  | true =>
    rw [hh, if_pos rfl] at hfc h
    simp only [Bool.and_eq_true] at hfc
    have hw := win_b hfc.2
    rw [if_pos rfl, if_pos rfl, if_pos rfl]
    suffices hr : ∀ a', Rd q n a' (sg m.dl) → ((tkS q n a').bind fun d a2 => if vqB (s.q + d) then Rr.ok ({ ({ m0 with fd := m.fd } : Mb) with dl := d }, { s with q := s.q + d }) a2 else .er 2 a2) = .ok ({ m0 with fd := m.fd, dl := m.dl }, ⟨s.q + m.dl, s.da, s.db, s.dc, s.va, s.vb, s.vc, s.vd⟩) (a' + (sg m.dl).length) by
      cases hb : bcx c with
      | true =>
        rw [hb, if_pos rfl] at h
        have h3 := h.r
        rw [List.length_singleton] at h3
        rw [if_pos rfl, if_pos rfl, tkF_rd h.l, Rr.bind_ok, Rr.bind_ok]
        have := hr _ h3
        dsimp only at this ⊢
        rw [this]
        congr 1
        simp only [List.length_append, List.length_singleton]; omega
      | false =>
        rw [hb, if_neg (by decide), List.nil_append] at h
        rw [hb] at hfc
        have hfd : m.fd = false := by simpa using hfc.1
        rw [if_neg (by decide), if_neg (by decide), Rr.bind_ok, List.nil_append]
        have := hr a h
        have em : ({ m0 with fd := m.fd } : Mb) = m0 := by
          cases m0; simp only at h1; subst h1; rw [hfd]
        rw [em] at this
        rw [this]
    intro a' h'
    rw [tkS_rd (by omega) h', Rr.bind_ok, hq, if_pos rfl]
theorem tkCf_rd {m0 : Mb} (hc : anyC m = true) (h : Rd q n a (cdl m)) : tkCf q n 6 m0 a = .ok { m0 with ca := m.ca, cb := m.cb, cc := m.cc, cd := m.cd, ce := m.ce, cf := m.cf } (a + 6) := by
  have h0 : Rd q n a ([m.ca] ++ ([m.cb] ++ ([m.cc] ++ ([m.cd] ++ ([m.ce] ++ [m.cf]))))) := h
  have h1 := h0.r
  have h2 := h1.r
  have h3 := h2.r
  have h4 := h3.r
  have h5 := h4.r
  simp only [List.length_singleton] at h1 h2 h3 h4 h5
  have e1 : ∀ r (m : Mb) a, tkCf q n (r + 1) m a = (tkF q n a).bind fun b a1 => tkCf q n r (setCd m (5 - r) b) a1 := fun r m a => rfl
  have e0 : ∀ (m : Mb) a, tkCf q n 0 m a = if anyC m then .ok m a else .er 2 a := fun m a => rfl
  have hs : setCd (setCd (setCd (setCd (setCd (setCd m0 0 m.ca) 1 m.cb) 2 m.cc) 3 m.cd) 4 m.ce) 5 m.cf = { m0 with ca := m.ca, cb := m.cb, cc := m.cc, cd := m.cd, ce := m.ce, cf := m.cf } := by
    cases m0; rfl
  rw [e1 5, tkF_rd h0.l, Rr.bind_ok, e1 4, tkF_rd h1.l, Rr.bind_ok, e1 3, tkF_rd h2.l, Rr.bind_ok, e1 2, tkF_rd h3.l, Rr.bind_ok, e1 1, tkF_rd h4.l, Rr.bind_ok, e1 0, tkF_rd h5, Rr.bind_ok, e0]
  simp only [Nat.reduceSub]
  rw [hs]
  have ha : anyC { m0 with ca := m.ca, cb := m.cb, cc := m.cc, cd := m.cd, ce := m.ce, cf := m.cf } = anyC m := rfl
  rw [ha, hc, if_pos rfl]
theorem blk_zero {lv : List Int} {j : Nat} (h : zbk lv j = true) : (lv.drop (j * 64)).take 64 = List.replicate 64 0 := by simpa [zbk] using h
theorem lv_step (lv : List Int) (j : Nat) (hl : lv.length = 384) (hj : j < 6) : lv.take ((j + 1) * 64) = lv.take (j * 64) ++ (lv.drop (j * 64)).take 64 := by
  rw [show (j + 1) * 64 = j * 64 + 64 by omega, List.take_add]
theorem tkLv_rd (hml : m.lv.length = 384) (hlr : lrM m) (hkk : m.k = 1 ∨ m.k = 2) (h1 : m.k = 1 → ∀ j, j < 6 → flagAt (cdl m) j = true) (h2 : m.k = 2 → ∀ j, j < 6 → flagAt (cdl m) j = !zbk m.lv j) : ∀ (r : Nat) (m1 : Mb) (s : St) (a : Nat), r ≤ 6 → cdl m1 = cdl m → m1.k = m.k → m1.lv = m.lv.take ((6 - r) * 64) ++ List.replicate (r * 64) 0 → dcR s → Rd q n a (lvsR m r s).1 →
    tkLv q n r m1 s a = .ok ({ m1 with lv := m.lv }, (lvsR m r s).2) (a + (lvsR m r s).1.length)
  | 0, m1, s, a, hr, hc, hk, hlv, hs, h => by
    simp only [tkLv, lvsR, List.length_nil, Nat.add_zero]
    congr 1
    have : m1.lv = m.lv := by rw [hlv]; simp [List.take_of_length_le, hml]
    rw [← this]
  | r + 1, m1, s, a, hr, hc, hk, hlv, hs, h => by
    have hj : 5 - r < 6 := by omega
    have hj6 : (6 - (r + 1)) = 5 - r := by omega
    have hjr : 5 - r + 1 = 6 - r := by omega
    rw [hj6] at hlv
    have htl : (m.lv.take ((5 - r) * 64)).length = (5 - r) * 64 := by rw [List.length_take]; omega
    have hb64 : (blkM m (5 - r)).length = 64 := blk_len m.lv (5 - r) hml hj
    have hbin := blkM_in hlr hj
    have hst := lv_step m.lv (5 - r) hml hj
    rw [hjr] at hst
    have hset : setLv m1 (5 - r) (blkM m (5 - r)) = { m1 with lv := m.lv.take ((6 - r) * 64) ++ List.replicate (r * 64) 0 } := by
      unfold setLv
      congr 1
      rw [hlv, List.take_left' htl, List.drop_append, List.drop_of_length_le (by omega), htl, List.nil_append, hst, List.drop_replicate, show (r + 1) * 64 - ((5 - r) * 64 + 64 - (5 - r) * 64) = r * 64 by omega]
      rfl
    simp only [tkLv, hc]
    rw [lvsR] at h ⊢
    cases hf : flagAt (cdl m) (5 - r) with
    | false =>
      rw [hf, if_neg (by decide)] at h
      rw [if_neg (by decide), if_neg (by decide)]
      have hk2 : m.k = 2 := by
        rcases hkk with e | e
        · have := h1 e _ hj; rw [hf] at this; cases this
        · exact e
      have hz : zbk m.lv (5 - r) = true := by
        have := h2 hk2 _ hj
        rw [hf] at this
        simpa using this.symm
      refine tkLv_rd hml hlr hkk h1 h2 r m1 s a (by omega) hc hk ?_ hs h
      rw [hlv, hst, blk_zero hz, List.append_assoc, List.replicate_append_replicate, show 64 + r * 64 = (r + 1) * 64 by omega]
    | true =>
      rw [hf, if_pos rfl] at h
      rw [if_pos rfl, if_pos rfl]
      rcases hkk with e | e
      · have ne : ¬m.k = 2 := by omega
        have ne1 : ¬m1.k = 2 := by rw [hk]; exact ne
        rw [if_neg ne] at h ⊢
        rw [if_neg ne1]
        have hw := hlr ((5 - r) * 64) (by omega)
        have hwb := win_b hw
        have hd := hs (5 - r - 3)
        have hdr := tkD_rd (most := 4095) hw (by omega) h.l
        rw [hdr, Rr.bind_ok, tkBl_rd hbin hb64 (by omega) h.r.l, Rr.bind_ok, if_neg (by omega)]
        have hb0 : intAt (blkM m (5 - r)) 0 = intAt m.lv ((5 - r) * 64) := blk_at m.lv (5 - r) 0 (by omega)
        have hse : ((blkM m (5 - r)).set 0 0).set 0 (intAt m.lv ((5 - r) * 64)) = blkM m (5 - r) := by
          rw [List.set_set, ← hb0]
          apply List.ext_getElem (by simp)
          intro x x1 x2
          rw [List.getElem_set]
          split
          · rename_i e0; subst e0; simp [intAt, hb64]
          · rfl
        rw [hse, hset]
        rw [tkLv_rd hml hlr (.inl e) h1 h2 r { m1 with lv := m.lv.take ((6 - r) * 64) ++ List.replicate (r * 64) 0 } (setD s (5 - r - 3) (intAt m.lv ((5 - r) * 64))) _ (by omega) hc hk rfl (dcR_set hs _ hwb) h.r.r]
        congr 1
        simp only [List.length_append]; omega
      · have e1 : m1.k = 2 := by rw [hk]; exact e
        rw [if_pos e] at h ⊢
        rw [if_pos e1]
        rw [tkBl_rd hbin hb64 (by omega) h.l, Rr.bind_ok, if_pos rfl]
        have hnz : ¬blkM m (5 - r) = z64 := fun e0 => by
          have := h2 e _ hj
          rw [hf] at this
          have hz : zbk m.lv (5 - r) = true := by
            unfold zbk
            have e1 : (m.lv.drop ((5 - r) * 64)).take 64 = List.replicate 64 0 := e0
            rw [e1]; simp
          rw [hz] at this
          cases this
        rw [if_neg hnz, hset]
        rw [tkLv_rd hml hlr (.inr e) h1 h2 r { m1 with lv := m.lv.take ((6 - r) * 64) ++ List.replicate (r * 64) 0 } s _ (by omega) hc hk rfl hs h.r]
        congr 1
        simp only [List.length_append]; omega
end

end Go.Proofs.Ytcabpncdgagihaa.Sc

namespace Go.Proofs.Ytcabpncdgagihaa.Sc
set_option linter.all false
set_option linter.unusedVariables false
set_option linter.unusedSimpArgs false
open Pm Ty Go.RowKit

theorem zm_of {m : Mb} (h : zmb m = true) (hml : m.lv.length = 384) : m = zMb := by
  simp only [zmb, Bool.and_eq_true] at h
  have hlv : m.lv = zl384 := by
    have hz := h.2.1
    simp only [zlv, Bool.and_eq_true] at hz
    obtain ⟨h0, h1, h2, h3, h4, h5, _⟩ := hz
    refine ext_int (by rw [hml, zl384_len]) fun x hx => ?_
    rw [hml] at hx
    have hz0 : intAt zl384 x = 0 := by
      unfold intAt zl384
      rw [List.getD_eq_getElem?_getD, List.getElem?_replicate]
      split <;> rfl
    rw [hz0]
    have e : x = x / 64 * 64 + x % 64 := by omega
    have hj : x % 64 < 64 := by omega
    have hn : x / 64 = 0 ∨ x / 64 = 1 ∨ x / 64 = 2 ∨ x / 64 = 3 ∨ x / 64 = 4 ∨ x / 64 = 5 := by omega
    rw [e]
    rcases hn with hn | hn | hn | hn | hn | hn <;> rw [hn]
    · exact zbk_zero h0 hj
    · exact zbk_zero h1 hj
    · exact zbk_zero h2 hj
    · exact zbk_zero h3 hj
    · exact zbk_zero h4 hj
    · exact zbk_zero h5 hj
  have h1 := h.1
  simp only [zA, Bool.and_eq_true, beq_iff_eq, and_true] at h1
  obtain ⟨k, ua, ub, fp, fd, va, vb, vc, vd, ve, vf, vg, vh, sa, sb, sc, sd, dl, ca, cb, cc, cd, ce, cf, lv⟩ := m
  simp only at h1 hlv
  subst hlv
  simp_all [zMb]
section
variable {q : List UInt8} {n a : Nat} {c : Cx} {m : Mb} {s : St}
theorem tkLv_z (s : St) : ∀ (r : Nat) (a : Nat), tkLv q n r zMb s a = .ok (zMb, s) a
  | 0, a => rfl
  | r + 1, a => by
    have : flagAt (cdl zMb) (5 - r) = false := by
      have h : 5 - r = 0 ∨ 5 - r = 1 ∨ 5 - r = 2 ∨ 5 - r = 3 ∨ 5 - r = 4 ∨ 5 - r = 5 := by omega
      rcases h with h | h | h | h | h | h <;> rw [h] <;> rfl
    simp only [tkLv]
    rw [this, if_neg (by decide)]
    exact tkLv_z s r a
theorem lvsR_z (s : St) : ∀ r, lvsR zMb r s = ([], s)
  | 0 => rfl
  | r + 1 => by
    have : flagAt (cdl zMb) (5 - r) = false := by
      have h : 5 - r = 0 ∨ 5 - r = 1 ∨ 5 - r = 2 ∨ 5 - r = 3 ∨ 5 - r = 4 ∨ 5 - r = 5 := by omega
      rcases h with h | h | h | h | h | h <;> rw [h] <;> rfl
    rw [lvsR, this, if_neg (by decide)]
    exact lvsR_z s r
theorem zl_rep : zl384 = m.lv.take ((6 - 6) * 64) ++ List.replicate (6 * 64) 0 := by
  show zl384 = List.take 0 m.lv ++ List.replicate 384 0
  rw [List.take_zero, List.nil_append]; rfl
theorem mtk_rd (hf : fmS c m = true) (vs : vstB s = true) (vq : vqB (s.q + m.dl) = true) (hml : m.lv.length = 384) (h : Rd q n a (mbits c s m)) : mtk c s q n a = .ok (m, mstate c s m) (a + (mbits c s m).length) := by
  have hF := fmd_of hf
  obtain ⟨hq, hv, hd⟩ := vst_b vs
  have hd5 : dcR (s23 c m s) := s3M_dc (dcR_same (s2M_same c m s) hd)
  have hn7 := numM_b c m
  unfold mtk mstate
  unfold mbits at h ⊢
  have hT : (b1M c m ++ (b2M c m s ++ (b3M c m ++ (b4M m ++ (lvsR m 6 (s23 c m s)).1)))).length = (b1M c m).length + (b2M c m s).length + (b3M c m).length + (b4M m).length + (lvsR m 6 (s23 c m s)).1.length := by
    simp only [List.length_append]; omega
  rw [hT]
  have r1 := h.l
  have r2 := h.r.l
  have r3 := h.r.r.l
  have r4 := h.r.r.r.l
  have r5 := h.r.r.r.r
  clear h hT
  rcases hF.k with hk | hk | hk
  · have hz : m = zMb := by
      unfold fmS at hf
      rw [if_pos hk, Bool.and_eq_true, Bool.and_eq_true] at hf
      exact zm_of hf.2.2 hml
    have ht : ¬c.t = 1 := by
      unfold fmS at hf
      rw [if_pos hk, Bool.and_eq_true, Bool.and_eq_true] at hf
      simpa using hf.2.1
    have hn : numM c m = 0 := by unfold numM; rw [if_neg (by omega), if_neg (by omega)]
    have e1 : b1M c m = eg 0 := by unfold b1M; rw [if_neg ht, hn]
    have e2 : b2M c m s = [] := by unfold b2M; rw [if_neg (by omega)]
    have e2' : s2M c m s = s := by unfold s2M; rw [if_neg (by omega)]
    have hh : hlM m = false := (hF.z hk).2
    have e3 : b3M c m = [] := by unfold b3M; rw [hh]; rfl
    have e3' : s3M m s = s := by unfold s3M; rw [hh]; rfl
    have e4 : b4M m = [] := by unfold b4M; rw [hh, Bool.and_false]; rfl
    have e5 : s23 c m s = s := by unfold s23; rw [e2', e3']
    rw [e1] at r1
    rw [e1, e2, e3, e4, e5]
    unfold tkKd
    rw [if_neg ht, tkU_rd (by omega) r1, Rr.bind_ok, if_neg (by split <;> omega), if_neg (by split <;> omega), if_pos rfl, Rr.bind_ok]
    dsimp only
    unfold tkRs
    rw [show tkPr c q n zMb s (a + (eg 0).length) = .ok (zMb, s) (a + (eg 0).length) from rfl, Rr.bind_ok]
    dsimp only
    rw [show tkCh c q n false zMb s (a + (eg 0).length) = .ok (zMb, s) (a + (eg 0).length) from rfl, Rr.bind_ok]
    dsimp only
    rw [show tkCo q n false zMb (a + (eg 0).length) = .ok zMb (a + (eg 0).length) from rfl, Rr.bind_ok, tkLv_z, Rr.bind_ok, hz, lvsR_z]
    rfl
  · have hn : ¬c.t = 1 → numM c m = if c.t = 2 then 3 else 7 := fun ht => by unfold numM; rw [if_pos hk]
    have hh : hlM m = true := by simp [hlM, hk]
    have hfc : zI m = true ∧ aC m = true ∧ fch c m = true := by
      unfold fmS at hf
      rw [if_neg (by omega), if_pos hk] at hf
      simp only [Bool.and_eq_true] at hf
      exact ⟨hf.2.1, hf.2.2.1, hf.2.2.2.1⟩
    have e2 : b2M c m s = [] := by unfold b2M; rw [if_neg (by omega)]
    have e2' : s2M c m s = s := by unfold s2M; rw [if_neg (by omega)]
    have e4 : b4M m = [] := by unfold b4M; rw [decide_eq_false (by omega), Bool.false_and]; rfl
    have e5 : s23 c m s = s3M m s := by unfold s23; rw [e2']
    have hkd : tkKd c q n a = .ok (inMb, true) (a + (b1M c m).length) := by
      unfold tkKd
      by_cases ht : c.t = 1
      · rw [if_pos ht]
        have : b1M c m = [] := by unfold b1M; rw [if_pos ht]
        rw [this]; rfl
      · have e1 : b1M c m = eg (numM c m) := by unfold b1M; rw [if_neg ht]
        rw [e1] at r1
        rw [if_neg ht, tkU_rd (by omega) r1, Rr.bind_ok, hn ht, if_neg (by split <;> omega), if_pos rfl, e1, hn ht]
    rw [hkd, Rr.bind_ok]
    dsimp only
    unfold tkRs
    rw [e2] at r3 r4 r5
    rw [e2, e4, e5]
    rw [e4, e5] at r5
    simp only [List.length_nil, Nat.add_zero] at r3 r5 ⊢
    rw [show tkPr c q n inMb s (a + (b1M c m).length) = .ok (inMb, s) (a + (b1M c m).length) from rfl, Rr.bind_ok]
    dsimp only
    rw [← hh, tkCh_rd (m0 := inMb) hfc.2.2 vq rfl rfl r3, Rr.bind_ok]
    dsimp only
    have hco : ∀ a', tkCo q n (hlM m) { inMb with fd := m.fd, dl := m.dl } a' = .ok { inMb with fd := m.fd, dl := m.dl } a' := fun a' => rfl
    rw [hco, Rr.bind_ok]
    have hcd : cdl ({ inMb with fd := m.fd, dl := m.dl } : Mb) = cdl m := by rw [hF.i hk]; rfl
    have hall : m.k = 1 → ∀ j, j < 6 → flagAt (cdl m) j = true := fun _ j hj => by
      rw [hF.i hk]
      have h6 : j = 0 ∨ j = 1 ∨ j = 2 ∨ j = 3 ∨ j = 4 ∨ j = 5 := by omega
      rcases h6 with rfl | rfl | rfl | rfl | rfl | rfl <;> rfl
    rw [tkLv_rd hml hF.l (.inl hk) hall (fun e => by omega) 6 { inMb with fd := m.fd, dl := m.dl } (s3M m s) _ (Nat.le_refl _) hcd hk.symm zl_rep (s3M_dc hd) r5, Rr.bind_ok]
    have hm : ({ ({ inMb with fd := m.fd, dl := m.dl } : Mb) with lv := m.lv } : Mb) = m := by
      have h1 := hfc.1
      have h2 := hfc.2.1
      simp only [zI, aC, Bool.and_eq_true, beq_iff_eq, and_true, Bool.not_eq_true'] at h1 h2
      obtain ⟨k, ua, ub, fp, fd, va, vb, vc, vd, ve, vf, vg, vh, sa, sb, sc, sd, dl, ca, cb, cc, cd, ce, cf, lv⟩ := m
      simp only at h1 h2 hk
      subst hk
      simp_all [inMb]
    dsimp only
    rw [hm, show inMb.k = m.k from hk.symm]
    congr 1
    omega
  · have hI := itr_of hk hf
    have ht := hI.t
    obtain ⟨_, _, _, q4, q5, q6, q7⟩ := dirs_eq c m (numM c m) hI rfl hk
    have e1 : b1M c m = eg (numM c m) := by unfold b1M; rw [if_neg ht]
    have hkd : tkKd c q n a = .ok (peMb (numM c m), hlM m) (a + (b1M c m).length) := by
      unfold tkKd
      rw [e1] at r1
      have hlt : numM c m < (if c.t = 2 then 3 else 7) := by
        split
        · rename_i e; exact q7 e
        · exact q6
      rw [if_neg ht, tkU_rd (by omega) r1, Rr.bind_ok, if_neg (by omega), if_neg (by omega), if_neg (by omega), q4, e1]
    rw [hkd, Rr.bind_ok]
    dsimp only
    unfold tkRs
    rw [tkPr_rd hk hI hF.v hv r2, Rr.bind_ok]
    dsimp only
    have vq2 : vqB ((s2M c m s).q + m.dl) = true := by rw [(s2M_same c m s).1]; exact vq
    rw [tkCh_rd (m0 := mP m) hI.h vq2 rfl rfl r3, Rr.bind_ok]
    dsimp only
    have hlA : hlM m = anyC m := by simp [hlM, hk]
    have hco : tkCo q n (hlM m) { mP m with fd := m.fd, dl := m.dl } (a + (b1M c m).length + (b2M c m s).length + (b3M c m).length) = .ok { ({ mP m with fd := m.fd, dl := m.dl } : Mb) with ca := m.ca, cb := m.cb, cc := m.cc, cd := m.cd, ce := m.ce, cf := m.cf } (a + (b1M c m).length + (b2M c m s).length + (b3M c m).length + (b4M m).length) := by
      unfold tkCo
      unfold b4M at r4 ⊢
      rw [decide_eq_true hk, Bool.true_and] at r4 ⊢
      rw [show decide (({ mP m with fd := m.fd, dl := m.dl } : Mb).k = 2) = true from rfl, Bool.true_and]
      cases hh : hlM m with
      | true =>
        rw [hh, if_pos rfl] at r4
        rw [if_pos rfl, if_pos rfl, tkCf_rd (by rw [← hlA, hh]) r4]
        rfl
      | false =>
        rw [if_neg (by decide), if_neg (by decide)]
        have hac : anyC m = false := by rw [← hlA, hh]
        simp only [anyC, Bool.or_eq_false_iff] at hac
        obtain ⟨c1, c2, c3, c4, c5, c6⟩ := hac
        rw [c1, c2, c3, c4, c5, c6]; rfl
    rw [hco, Rr.bind_ok]
    have e5 : s3M m (s2M c m s) = s23 c m s := rfl
    rw [e5, tkLv_rd hml hF.l (.inr hk) (fun e => by omega) (fun _ j hj => fl_of hI.k j hj) 6 { ({ mP m with fd := m.fd, dl := m.dl } : Mb) with ca := m.ca, cb := m.cb, cc := m.cc, cd := m.cd, ce := m.ce, cf := m.cf } (s23 c m s) _ (Nat.le_refl _) rfl hk.symm zl_rep hd5 r5, Rr.bind_ok]
    have hm : ({ ({ ({ mP m with fd := m.fd, dl := m.dl } : Mb) with ca := m.ca, cb := m.cb, cc := m.cc, cd := m.cd, ce := m.ce, cf := m.cf } : Mb) with lv := m.lv } : Mb) = m := by
      cases m
      simp only at hk
      subst hk
      rfl
    dsimp only
    rw [hm, show (mP m).k = m.k from hk.symm]
    congr 1
    omega
end

end Go.Proofs.Ytcabpncdgagihaa.Sc

namespace Go.Proofs.Ytcabpncdgagihaa.Sc
set_option linter.all false
set_option linter.unusedVariables false
set_option linter.unusedSimpArgs false
open Pm Ty Go.RowKit

theorem stE_scoped (n : Nat) (s : St) (e : Int) : Scoped n (.tup [.agg (stc s), .int .i64 e]) := .tup (all_scoped' fun x hx => by
  simp only [List.mem_cons, List.not_mem_nil, or_false] at hx
  rcases hx with rfl | rfl
  · exact stc_scoped _ _
  · exact .int _ _)
set_option maxHeartbeats 4000000 in
set_option maxRecDepth 100000 in
/-- Without a writer. -/
theorem mput_nil (c : Cx) (s : St) (m : Mb) (H : Heap) (hml : m.lv.length = 384) : CallOk Try.prog 7 [.nilp, .agg (cxc c), .agg (stc s), .agg (mbc m)] H (.tup [.agg (stc zSt), .int .i64 1]) H := by
  have c1 := cxc_cell c
  have c2 := stc_cell s
  have c3 := mbc_cell m
  refine CallOk.body (F0 := [(0, .nilp), (1, .agg (cxc c)), (2, .agg (stc s)), (3, .agg (mbc m))]) Try.func7 rfl Try.ntmps7 Try.results7 rfl (by kernel_rfl) rfl ?_
  (repeat refine PW.seq ?_); refine PW.rg rfl fun K hK => ?_; simp (maxSteps := 3000000) (disch := omega) only [go_sem, ↓reduceIte, reduceCtorEq, pappend, plen, c1, c2, c3, Nat.reduceAdd]; refine hK _ _ ?_; clear hK K
  (repeat refine PW.seq ?_); refine PW.rg rfl fun K hK => ?_; simp (maxSteps := 3000000) (disch := omega) only [go_sem, ↓reduceIte, reduceCtorEq, pappend, plen]; refine hK _ _ ?_; clear hK K
  (repeat refine PW.seq ?_); refine PW.cond (t := _) rfl (fun h => ?_) (fun h => ?_)
  rotate_left
  · cases h
  (repeat refine PW.seq ?_); refine PW.rg rfl fun K hK => ?_; simp (maxSteps := 3000000) (disch := omega) only [go_sem, ↓reduceIte, reduceCtorEq, pappend, plen]; refine hK _ _ ?_; clear hK K
  refine PW.ret ⟨.tup [.agg (stc zSt), .int .i64 1], by simp (maxSteps := 3000000) (disch := omega) only [go_sem, ↓reduceIte, reduceCtorEq, pappend, plen, presults, presult, List.mapM_cons, List.mapM_nil, Option.pure_def, Option.bind_eq_bind, Option.bind_some, Array.toList, stc, zSt], ?_⟩
  exact Fin.base (.id (stE_scoped _ _ _))
set_option maxHeartbeats 4000000 in
set_option maxRecDepth 100000 in
theorem mput1 (H : Heap) (i j : Nat) (M : List Bool) (c : Cx) (m : Mb) (s : St) (hA : H[i]? = some (wA j M)) (hml : m.lv.length = 384) (hbad : (fmS c m && vstB s) = false) :
    CallOk Try.prog 7 [.ptr i 0 0, .agg (cxc c), .agg (stc s), .agg (mbc m)] H (.tup [.agg (stc zSt), .int .i64 1]) H := by
  have hi := (List.getElem?_eq_some_iff.1 hA).1
  have hx := fun K => get_ext (K := K) hA
  have fo := fun K => fm_ok c m K hml
  have vo := fun K => vst_ok' s K
  generalize fmS c m = f1 at *
  generalize vstB s = v1 at *
  have c1 := cxc_cell c
  have c2 := stc_cell s
  have c3 := mbc_cell m
  have m408 := mbc_len m hml
  have tk1 : List.take 4 (cxc c) = cxc c := rfl
  have tk2 : List.take 8 (stc s) = stc s := rfl
  have tk3 : List.take 408 (mbc m) = mbc m := List.take_of_length_le (by omega)
  have l1 : (cxc c).length = 4 := rfl
  have l2 : (stc s).length = 8 := rfl
  refine CallOk.body (F0 := [(0, .ptr i 0 0), (1, .agg (cxc c)), (2, .agg (stc s)), (3, .agg (mbc m))]) Try.func7 rfl Try.ntmps7 Try.results7 rfl (by kernel_rfl) rfl ?_
  (repeat refine PW.seq ?_); refine PW.rg rfl fun K hK => ?_; simp (maxSteps := 3000000) (disch := omega) only [go_sem, ↓reduceIte, reduceCtorEq, pappend, plen, c1, c2, c3, Nat.reduceAdd]; refine hK _ _ ?_; clear hK K
  cases f1 with
  | false =>
    (repeat refine PW.seq ?_); refine PW.rg rfl fun K hK => ?_; simp (maxSteps := 3000000) (disch := omega) only [go_sem, ↓reduceIte, reduceCtorEq, pappend, plen, hx, wA_v, tk1, tk2, tk3, l1, l2, m408]
    refine VCx.call (fo _) rfl ?_; simp (maxSteps := 3000000) (disch := omega) only [go_sem, ↓reduceIte, reduceCtorEq, pappend, plen]; refine hK _ _ ?_; clear hK K
    (repeat refine PW.seq ?_); refine PW.cond (t := _) rfl (fun h => ?_) (fun h => ?_)
    rotate_left
    · cases h
    (repeat refine PW.seq ?_); refine PW.rg rfl fun K hK => ?_; simp (maxSteps := 3000000) (disch := omega) only [go_sem, ↓reduceIte, reduceCtorEq, pappend, plen]; refine hK _ _ ?_; clear hK K
    refine PW.ret ⟨.tup [.agg (stc zSt), .int .i64 1], by simp (maxSteps := 3000000) (disch := omega) only [go_sem, ↓reduceIte, reduceCtorEq, pappend, plen, presults, presult, List.mapM_cons, List.mapM_nil, Option.pure_def, Option.bind_eq_bind, Option.bind_some, Array.toList, stc, zSt], ?_⟩
    exact Fin.base (.id (stE_scoped _ _ _))
  | true =>
    rw [Bool.true_and] at hbad
    subst hbad
    (repeat refine PW.seq ?_); refine PW.rg rfl fun K hK => ?_; simp (maxSteps := 3000000) (disch := omega) only [go_sem, ↓reduceIte, reduceCtorEq, pappend, plen, hx, wA_v, tk1, tk2, tk3, l1, l2, m408]
    refine VCx.call (fo _) rfl ?_; simp (maxSteps := 3000000) (disch := omega) only [go_sem, ↓reduceIte, reduceCtorEq, pappend, plen, tk2, l2]
    refine VCx.call (vo _) rfl ?_; simp (maxSteps := 3000000) (disch := omega) only [go_sem, ↓reduceIte, reduceCtorEq, pappend, plen]; refine hK _ _ ?_; clear hK K
    (repeat refine PW.seq ?_); refine PW.cond (t := _) rfl (fun h => ?_) (fun h => ?_)
    rotate_left
    · cases h
    (repeat refine PW.seq ?_); refine PW.rg rfl fun K hK => ?_; simp (maxSteps := 3000000) (disch := omega) only [go_sem, ↓reduceIte, reduceCtorEq, pappend, plen]; refine hK _ _ ?_; clear hK K
    refine PW.ret ⟨.tup [.agg (stc zSt), .int .i64 1], by simp (maxSteps := 3000000) (disch := omega) only [go_sem, ↓reduceIte, reduceCtorEq, pappend, plen, presults, presult, List.mapM_cons, List.mapM_nil, Option.pure_def, Option.bind_eq_bind, Option.bind_some, Array.toList, stc, zSt], ?_⟩
    exact Fin.base (.id (stE_scoped _ _ _))
set_option maxHeartbeats 4000000 in
set_option maxRecDepth 100000 in
theorem mput2 (H : Heap) (i j : Nat) (M : List Bool) (c : Cx) (m : Mb) (s : St) (hA : H[i]? = some (wA j M)) (hml : m.lv.length = 384) (fm : fmS c m = true) (vs : vstB s = true) (vq : vqB (s.q + m.dl) = false) :
    CallOk Try.prog 7 [.ptr i 0 0, .agg (cxc c), .agg (stc s), .agg (mbc m)] H (.tup [.agg (stc zSt), .int .i64 2]) H := by
  have hi := (List.getElem?_eq_some_iff.1 hA).1
  have hx := fun K => get_ext (K := K) hA
  have fo := fun K => fm_ok c m K hml
  have vo := fun K => vst_ok' s K
  have qo := fun K => vq_ok (s.q + m.dl) K
  have hdl := (fmd_of fm).d
  have hq := (vst_b vs).1
  rw [fm] at fo
  rw [vs] at vo
  rw [vq] at qo
  have c1 := cxc_cell c
  have c2 := stc_cell s
  have c3 := mbc_cell m
  have m408 := mbc_len m hml
  have tk1 : List.take 4 (cxc c) = cxc c := rfl
  have tk2 : List.take 8 (stc s) = stc s := rfl
  have tk3 : List.take 408 (mbc m) = mbc m := List.take_of_length_le (by omega)
  have l1 : (cxc c).length = 4 := rfl
  have l2 : (stc s).length = 8 := rfl
  have k17 : (mbc m)[17]? = some (.int .i64 m.dl) := rfl
  have s0 : (stc s)[0]? = some (.int .i64 s.q) := rfl
  refine CallOk.body (F0 := [(0, .ptr i 0 0), (1, .agg (cxc c)), (2, .agg (stc s)), (3, .agg (mbc m))]) Try.func7 rfl Try.ntmps7 Try.results7 rfl (by kernel_rfl) rfl ?_
  (repeat refine PW.seq ?_); refine PW.rg rfl fun K hK => ?_; simp (maxSteps := 3000000) (disch := omega) only [go_sem, ↓reduceIte, reduceCtorEq, pappend, plen, c1, c2, c3, Nat.reduceAdd]; refine hK _ _ ?_; clear hK K
  (repeat refine PW.seq ?_); refine PW.rg rfl fun K hK => ?_; simp (maxSteps := 3000000) (disch := omega) only [go_sem, ↓reduceIte, reduceCtorEq, pappend, plen, hx, wA_v, tk1, tk2, tk3, l1, l2, m408]
  refine VCx.call (fo _) rfl ?_; simp (maxSteps := 3000000) (disch := omega) only [go_sem, ↓reduceIte, reduceCtorEq, pappend, plen, tk2, l2]
  refine VCx.call (vo _) rfl ?_; simp (maxSteps := 3000000) (disch := omega) only [go_sem, ↓reduceIte, reduceCtorEq, pappend, plen]; refine hK _ _ ?_; clear hK K
  (repeat refine PW.seq ?_); refine PW.cond (t := _) rfl (fun h => ?_) (fun h => ?_)
  · cases h
  refine PW.skip ?_
  (repeat refine PW.seq ?_); refine PW.rg rfl fun K hK => ?_; simp (maxSteps := 3000000) (disch := omega) only [go_sem, ↓reduceIte, reduceCtorEq, pappend, plen, s0, k17, l2, m408]
  refine VCx.call (qo _) rfl ?_; simp (maxSteps := 3000000) (disch := omega) only [go_sem, ↓reduceIte, reduceCtorEq, pappend, plen]; refine hK _ _ ?_; clear hK K
  (repeat refine PW.seq ?_); refine PW.cond (t := _) rfl (fun h => ?_) (fun h => ?_)
  rotate_left
  · cases h
  (repeat refine PW.seq ?_); refine PW.rg rfl fun K hK => ?_; simp (maxSteps := 3000000) (disch := omega) only [go_sem, ↓reduceIte, reduceCtorEq, pappend, plen]; refine hK _ _ ?_; clear hK K
  refine PW.ret ⟨.tup [.agg (stc zSt), .int .i64 2], by simp (maxSteps := 3000000) (disch := omega) only [go_sem, ↓reduceIte, reduceCtorEq, pappend, plen, presults, presult, List.mapM_cons, List.mapM_nil, Option.pure_def, Option.bind_eq_bind, Option.bind_some, Array.toList, stc, zSt], ?_⟩
  exact Fin.base (.id (stE_scoped _ _ _))
theorem mput_ok (H : Heap) (i j : Nat) (M : List Bool) (c : Cx) (m : Mb) (s : St) (hA : H[i]? = some (wA j M)) (hB : H[j]? = some (wB M)) (hne : i ≠ j) (hl : M.length ≤ 600000000) (hml : m.lv.length = 384) :
    CallOk Try.prog 7 [.ptr i 0 0, .agg (cxc c), .agg (stc s), .agg (mbc m)] H (.tup [.agg (stc (mput c s m).2.1), .int .i64 (mput c s m).2.2]) (two H i j (wA j (M ++ (mput c s m).1)) (wB (M ++ (mput c s m).1))) := by
  by_cases h1 : (fmS c m && vstB s) = true
  · have h2 := h1
    rw [Bool.and_eq_true] at h2
    cases h3 : vqB (s.q + m.dl) with
    | true =>
      have e : mput c s m = (mbits c s m, mstate c s m, 0) := by unfold mput; rw [if_pos h1, if_pos h3]
      rw [e]
      exact mput0 H i j M c m s hA hB hne hl hml h2.1 h2.2 h3
    | false =>
      have e : mput c s m = ([], zSt, 2) := by unfold mput; rw [if_pos h1, if_neg (by rw [h3]; decide)]
      rw [e, List.append_nil, two_self hA hB]
      exact mput2 H i j M c m s hA hml h2.1 h2.2 h3
  · have e : mput c s m = ([], zSt, 1) := by unfold mput; rw [if_neg h1]
    rw [e, List.append_nil, two_self hA hB]
    exact mput1 H i j M c m s hA hml (by simpa using h1)

end Go.Proofs.Ytcabpncdgagihaa.Sc

namespace Go.Proofs.Ytcabpncdgagihaa.Sc
set_option linter.all false
set_option linter.unusedVariables false
set_option linter.unusedSimpArgs false
open Pm Ty Go.RowKit

theorem apn (H K : Heap) (n : Nat) : (H ++ K)[H.length + n]? = K[n]? := by
  rw [List.getElem?_append_right (by omega), show H.length + n - H.length = n by omega]
theorem aps (H K : Heap) (n : Nat) (X : Blk) : (H ++ K).set (H.length + n) X = H ++ K.set n X := by
  rw [List.set_append_right _ _ (by omega), show H.length + n - H.length = n by omega]
theorem VCj.wrT {P : Program} {F : Fr} {H : Heap} {dr : Bool} {ids : List Nat} {fp : Fp} {rs : List (Nat × Nat)} {o : Oper} {K : Fr → Heap → Prop} {g : FuncId} {args : List PV} {v : PV} {i j : Nat} {k l A B : Blk} (hi : H[i]? = some k) (hj : H[j]? = some l) (hne : i ≠ j)
    (h : ∀ L : Heap, L[i]? = some k → L[j]? = some l → CallOk P g args L v (two L i j A B)) (hwi : (atP ids fp.w).elem i = true) (hwj : (atP ids fp.w).elem j = true) (hvi : (atP ids fp.v).elem i = true) (hvj : (atP ids fp.v).elem j = true)
    (hc : pcallee o.op (slot F) = some (g, args)) (hk : K (put F o.dst v) (two H i j A B)) : VCj P dr ids fp rs o F H K := by
  unfold VCj
  simp only [hc]
  refine ⟨v, two H i j A B, ?_, hk⟩
  have wi : i ∈ atP ids fp.w := by simpa [List.elem_eq_mem] using hwi
  have wj : j ∈ atP ids fp.w := by simpa [List.elem_eq_mem] using hwj
  have vi : i ∈ atP ids fp.v := by simpa [List.elem_eq_mem] using hvi
  have vj : j ∈ atP ids fp.v := by simpa [List.elem_eq_mem] using hvj
  have upd : ∀ L : Heap, L[i]? = some k → L[j]? = some l → Upd ids fp L (two L i j A B) := fun L hi hj => by
    have u1 : Upd ids fp L (L.set i A) := Upd.set hi wi (.inr vi)
    have u2 : Upd ids fp (L.set i A) ((L.set i A).set j B) := Upd.set (k := l) (by rw [List.getElem?_set_ne hne]; exact hj) wj (.inr vj)
    exact ⟨by rw [two_len], fun x hx => (u2.out x hx).trans (u1.out x hx), fun x hx => Eq.trans (u2.ver x hx) (u1.ver x hx)⟩
  cases dr with
  | false => exact h H hi hj
  | true =>
    refine ⟨upd H hi hj, fun L hL => ?_⟩
    have li := (hL.inn i (.inr wi)).trans hi
    have lj := (hL.inn j (.inr wj)).trans hj
    refine ⟨two L i j A B, by unfold StI; rw [hc]; exact h L li lj, upd L li lj, fun x hx => ?_⟩
    have hlen := hL.len
    have hij : i < H.length ∧ j < H.length := ⟨(List.getElem?_eq_some_iff.1 hi).1, (List.getElem?_eq_some_iff.1 hj).1⟩
    by_cases e : x = i
    · subst e; rw [two_0 _ _ _ _ _ ⟨by omega, hne⟩, two_0 _ _ _ _ _ ⟨by omega, hne⟩]
    · by_cases e' : x = j
      · subst e'; rw [two_1 _ _ _ _ _ (by omega), two_1 _ _ _ _ _ (by omega)]
      · unfold two
        rw [List.getElem?_set_ne (Ne.symm e'), List.getElem?_set_ne (Ne.symm e), List.getElem?_set_ne (Ne.symm e'), List.getElem?_set_ne (Ne.symm e), hL.inn x (.inr hx)]

theorem samest_ok (s : St) (H : Heap) : CallOk Try.prog 9 [.agg (stc s)] H (.agg (stc s)) H := by
  have hsc := stc_scoped s
  obtain ⟨q, da, db, dc, va, vb, vc, vd⟩ := s
  refine CallOk.body (F0 := [(0, .agg [.int .i64 q, .int .i64 da, .int .i64 db, .int .i64 dc, .int .i64 va, .int .i64 vb, .int .i64 vc, .int .i64 vd])]) Try.func9 rfl Try.ntmps9 Try.results9 rfl (by kernel_rfl) rfl ?_
  (repeat refine PW.seq ?_); refine PW.rg rfl fun K hK => ?_; simp (maxSteps := 3000000) (disch := omega) only [go_sem, ↓reduceIte, reduceCtorEq, pappend, plen]; refine hK _ _ ?_; clear hK K
  (repeat refine PW.seq ?_); refine PW.rg rfl fun K hK => ?_; simp (maxSteps := 3000000) (disch := omega) only [go_sem, ↓reduceIte, reduceCtorEq, pappend, plen]; refine hK _ _ ?_; clear hK K
  refine PW.ret ⟨.agg [.int .i64 q, .int .i64 da, .int .i64 db, .int .i64 dc, .int .i64 va, .int .i64 vb, .int .i64 vc, .int .i64 vd], by simp (maxSteps := 3000000) (disch := omega) only [go_sem, ↓reduceIte, reduceCtorEq, pappend, plen, presults, presult, List.mapM_cons, List.mapM_nil, Option.pure_def, Option.bind_eq_bind, Option.bind_some, Array.toList], ?_⟩
  exact Fin.base (.id (hsc _))
theorem neSt (q a b c x y z w : Int) : peqG Try.prog .neq 34 (.agg [.int .i64 q, .int .i64 a, .int .i64 b, .int .i64 c, .int .i64 x, .int .i64 y, .int .i64 z, .int .i64 w]) (.agg [.int .i64 q, .int .i64 a, .int .i64 b, .int .i64 c, .int .i64 x, .int .i64 y, .int .i64 z, .int .i64 w]) = some (.bool !((q == q) && (((a == a) && ((b == b) && ((c == c) && true))) && ((((x == x) && ((y == y) && true)) && (((z == z) && ((w == w) && true)) && true)) && true)))) := by kernel_rfl
theorem neSt' (s : St) : peqG Try.prog .neq 34 (.agg (stc s)) (.agg (stc s)) = some (.bool false) := by
  have := neSt s.q s.da s.db s.dc s.va s.vb s.vc s.vd
  simp only [beq_self_eq_true, Bool.and_self, Bool.not_true] at this
  exact this
theorem same_bytes (p q : List UInt8) (f g : Bool) (H : Heap) : CallOk Try.prog 13 [.slice (bs p) p.length f, .slice (bs q) q.length g] H (.bool (p == q)) H := by
  refine CallOk.body (F0 := [(0, .slice (bs p) p.length f), (1, .slice (bs q) q.length g)]) Try.func13 rfl Try.ntmps13 Try.results13 rfl (by kernel_rfl) rfl ?_
  (repeat refine PW.seq ?_); refine PW.rg rfl fun K hK => ?_; simp (maxSteps := 3000000) (disch := omega) only [go_sem, ↓reduceIte, reduceCtorEq, pappend, plen]; refine hK _ _ ?_; clear hK K
  (repeat refine PW.seq ?_); refine PW.rg rfl fun K hK => ?_; simp (maxSteps := 3000000) (disch := omega) only [go_sem, ↓reduceIte, reduceCtorEq, pappend, plen, length_bs, pbytes_bs]; refine hK _ _ ?_; clear hK K
  exact PW.ret ⟨_, rfl, .inl ⟨rfl, rfl⟩⟩
theorem flat_len {α : Type} (enc : α → List PV) (N : Nat) : ∀ (l : List α), (∀ x ∈ l, (enc x).length = N) → (l.flatMap enc).length = l.length * N
  | [], _ => by simp
  | a :: r, h => by
    rw [List.flatMap_cons, List.length_append, flat_len enc N r (fun x hx => h x (List.mem_cons_of_mem _ hx)), h a (List.mem_cons_self ..), List.length_cons, Nat.add_mul, Nat.one_mul, Nat.add_comm]
theorem flat_at {α : Type} (enc : α → List PV) (N : Nat) : ∀ (l : List α) (k : Nat) (hk : k < l.length), (∀ x ∈ l, (enc x).length = N) → List.take N (List.drop (k * N) (l.flatMap enc)) = enc l[k]
  | [], k, hk, _ => by simp at hk
  | a :: r, 0, _, h => by
    rw [Nat.zero_mul, List.drop_zero, List.flatMap_cons]
    exact List.take_left' (h a (List.mem_cons_self ..))
  | a :: r, k + 1, hk, h => by
    have e : (k + 1) * N = (enc a).length + k * N := by rw [h a (List.mem_cons_self ..), Nat.add_mul, Nat.one_mul, Nat.add_comm]
    rw [List.flatMap_cons, e, ← List.drop_drop, List.drop_left]
    exact flat_at enc N r k (by simpa using hk) (fun x hx => h x (List.mem_cons_of_mem _ hx))
theorem mbl_sc (l : List Mb) (n : Nat) : ∀ x ∈ l.flatMap mbc, Scoped n x := fun x hx => by
  obtain ⟨m, _, hx⟩ := List.mem_flatMap.1 hx
  simp only [mbc, List.mem_cons] at hx
  rcases hx with rfl | rfl | rfl | rfl | rfl | rfl | rfl | rfl | rfl | rfl | rfl | rfl | rfl | rfl | rfl | rfl | rfl | rfl | rfl | rfl | rfl | rfl | rfl | rfl | hx
  all_goals first | exact .int _ _ | exact .bool _ | exact is_scoped _ _ _ hx
theorem hscW {H K : Heap} (hK : ∀ b ∈ K, ∀ x ∈ b.cells, Scoped (H.length + K.length) x) (h : HSc H) : HSc (H ++ K) := fun id k hk x hx => by
  rw [List.length_append]
  rw [List.getElem?_append] at hk
  split at hk
  · exact (h id k hk x hx).mono (by omega)
  · exact hK k (List.mem_of_getElem? hk) x hx

end Go.Proofs.Ytcabpncdgagihaa.Sc

namespace Go.Proofs.Ytcabpncdgagihaa.Sc
set_option linter.all false
set_option linter.unusedVariables false
set_option linter.unusedSimpArgs false
open Pm Ty Go.RowKit

theorem eqBs (bl : List Int) (h : bl.length = 64) : peqT Try.prog 10 46 (.agg (is bl)) (.agg (is bl)) = some true := by
  rw [eqB_def, if_pos ⟨sz_int, by rw [is_len]; exact h, by rw [is_len]; exact h⟩, peqI_is .i64 bl bl rfl]
  simp
theorem peqA_self (lv : List Int) (n : Nat) (r : List Nat) (hl : lv.length = 384) (hn : n < 6) (hr : peqA (peqT Try.prog 10) Try.prog 46 64 (is lv) (is lv) r = some true) : peqA (peqT Try.prog 10) Try.prog 46 64 (is lv) (is lv) (n :: r) = some true := by
  have h1 := rdBl lv n hl hn
  have h3 := eqBs _ (blk_len lv n hl hn)
  unfold peqA
  rw [h1]
  simp only [h3, hr]
  rfl
theorem eqLs (lv : List Int) (hl : lv.length = 384) : peqT Try.prog 11 47 (.agg (is lv)) (.agg (is lv)) = some true := by
  rw [eqLv_def]
  exact peqA_self lv 0 _ hl (by omega) (peqA_self lv 1 _ hl (by omega) (peqA_self lv 2 _ hl (by omega) (peqA_self lv 3 _ hl (by omega) (peqA_self lv 4 _ hl (by omega) (peqA_self lv 5 _ hl (by omega) rfl)))))
theorem peqF8s (k : Int) (ua ub fp fd : Bool) (va vb vc vd ve vf vg vh sa sb sc sd dl : Int) (ca cb cc cd ce cf : Bool) (lv : List Int) : peqF (peqT Try.prog 11) Try.prog (mbc ⟨k, ua, ub, fp, fd, va, vb, vc, vd, ve, vf, vg, vh, sa, sb, sc, sd, dl, ca, cb, cc, cd, ce, cf, lv⟩) (mbc ⟨k, ua, ub, fp, fd, va, vb, vc, vd, ve, vf, vg, vh, sa, sb, sc, sd, dl, ca, cb, cc, cd, ce, cf, lv⟩) (mbF8 Try.prog) =
    some ((k == k) && (((ua == ua) && ((ub == ub) && true)) && ((fp == fp) && ((fd == fd) && ((((((va == va) && ((vb == vb) && true)) && (((vc == vc) && ((vd == vd) && true)) && true))) && (((((ve == ve) && ((vf == vf) && true)) && (((vg == vg) && ((vh == vh) && true)) && true))) && true)) && ((((sa == sa) && ((sb == sb) && true)) && ((((sc == sc) && ((sd == sd) && true))) && true)) && ((dl == dl) && (((ca == ca) && ((cb == cb) && ((cc == cc) && ((cd == cd) && ((ce == ce) && ((cf == cf) && true)))))) && true)))))))) := by kernel_rfl
theorem neMb (m : Mb) (hl : m.lv.length = 384) : peqG Try.prog .neq 49 (.agg (mbc m)) (.agg (mbc m)) = some (.bool false) := by
  have e : ∀ x y, peqG Try.prog .neq 49 x y = match peqT Try.prog 12 49 x y with | some b => peq .neq b | none => none := fun x y => by kernel_rfl
  have h8 := peqF8s m.k m.ua m.ub m.fp m.fd m.va m.vb m.vc m.vd m.ve m.vf m.vg m.vh m.sa m.sb m.sc m.sd m.dl m.ca m.cb m.cc m.cd m.ce m.cf m.lv
  simp only [beq_self_eq_true, Bool.and_true] at h8
  rw [e, peqT_mb, peqF_app _ _ _ _ _ _ (peqF1_def _ _ _ _ _ (rdLm m hl) (rdLm m hl) (eqLs m.lv hl)) (mbF8 Try.prog) true h8]
  rfl
theorem eqStv (q a b c x y z w : Int) : peqG Try.prog .eql 34 (.agg [.int .i64 q, .int .i64 a, .int .i64 b, .int .i64 c, .int .i64 x, .int .i64 y, .int .i64 z, .int .i64 w]) (.agg [.int .i64 q, .int .i64 a, .int .i64 b, .int .i64 c, .int .i64 x, .int .i64 y, .int .i64 z, .int .i64 w]) = some (.bool ((q == q) && (((a == a) && ((b == b) && ((c == c) && true))) && ((((x == x) && ((y == y) && true)) && (((z == z) && ((w == w) && true)) && true)) && true)))) := by kernel_rfl
theorem eqSts (s : St) : peqG Try.prog .eql 34 (.agg (stc s)) (.agg (stc s)) = some (.bool true) := by
  have := eqStv s.q s.da s.db s.dc s.va s.vb s.vc s.vd
  simp only [beq_self_eq_true, Bool.and_self] at this
  exact this

/-! ### several macroblocks -/
def bitsL (c : Cx) : St → List Mb → List Bool
  | _, [] => []
  | s, m :: r => mbits c s m ++ bitsL c (mstate c s m) r
def stL (c : Cx) : St → List Mb → St
  | s, [] => s
  | s, m :: r => stL c (mstate c s m) r
def okL (c : Cx) : St → List Mb → Prop
  | _, [] => True
  | s, m :: r => (fmS c m = true ∧ vstB s = true ∧ vqB (s.q + m.dl) = true) ∧ okL c (mstate c s m) r
theorem bitsL_app (c : Cx) : ∀ (l r : List Mb) (s : St), bitsL c s (l ++ r) = bitsL c s l ++ bitsL c (stL c s l) r
  | [], r, s => rfl
  | m :: l, r, s => by simp only [List.cons_append, bitsL, stL, bitsL_app c l r, List.append_assoc]
theorem stL_app (c : Cx) : ∀ (l r : List Mb) (s : St), stL c s (l ++ r) = stL c (stL c s l) r
  | [], r, s => rfl
  | m :: l, r, s => by simp only [List.cons_append, stL, stL_app c l r]
theorem okL_app (c : Cx) : ∀ (l r : List Mb) (s : St), okL c s l → okL c (stL c s l) r → okL c s (l ++ r)
  | [], r, s, _, h => h
  | m :: l, r, s, h, k => ⟨h.1, okL_app c l r _ h.2 k⟩
theorem mtkA_rd {q : List UInt8} {n a : Nat} {c : Cx} {m : Mb} {s : St} (hf : fmS c m = true) (vs : vstB s = true) (vq : vqB (s.q + m.dl) = true) (hml : m.lv.length = 384) (h : Rd q n a (mbits c s m)) : mtkA c s q n a = .ok (m, mstate c s m) (a + (mbits c s m).length) := by
  unfold mtkA
  have hv : vcx c = true := by
    unfold fmS at hf
    rw [Bool.and_eq_true] at hf
    exact hf.1
  rw [hv, vs, Bool.and_self, if_pos rfl]
  exact mtk_rd hf vs vq hml h

end Go.Proofs.Ytcabpncdgagihaa.Sc

namespace Go.Proofs.Ytcabpncdgagihaa.Sc
set_option linter.all false
set_option linter.unusedVariables false
set_option linter.unusedSimpArgs false
open Pm Ty Go.RowKit

theorem okL_app' (c : Cx) (l : List Mb) (m : Mb) (s : St) : okL c s (l ++ [m]) ↔ okL c s l ∧ okL c (stL c s l) [m] := by
  induction l generalizing s with
  | nil => exact ⟨fun h => ⟨trivial, h⟩, fun h => h.2⟩
  | cons x l ih =>
    constructor
    · intro h
      obtain ⟨h1, h2⟩ := (ih _).1 h.2
      exact ⟨⟨h.1, h1⟩, h2⟩
    · intro h
      exact ⟨h.1.1, (ih _).2 ⟨h.1.2, h.2⟩⟩
def bH1 (H : Heap) (c : Cx) (s : St) (M : List Bool) : Heap := H ++ [⟨23, 0, cxc c⟩, wA (H.length + 2) M, wB M, ⟨34, 0, stc s⟩]
theorem cx_sc (c : Cx) (n : Nat) : ∀ x ∈ cxc c, Scoped n x := fun x hx => by
  simp only [cxc, List.mem_cons, List.not_mem_nil, or_false] at hx
  rcases hx with rfl | rfl | rfl | rfl
  · exact .int _ _
  · exact .int _ _
  · exact .bool _
  · exact .bool _
theorem st_sc (s : St) (n : Nat) : ∀ x ∈ stc s, Scoped n x := fun x hx => by
  simp only [stc, List.mem_cons, List.not_mem_nil, or_false] at hx
  rcases hx with rfl | rfl | rfl | rfl | rfl | rfl | rfl | rfl <;> exact .int _ _
theorem wA_sc (j : Nat) (M : List Bool) (n : Nat) (h : j < n) : ∀ x ∈ (wA j M).cells, Scoped n x := fun x hx => by
  simp only [wA, List.mem_cons, List.not_mem_nil, or_false] at hx
  rcases hx with rfl | rfl
  · exact .msl h
  · exact .int _ _
theorem hsc_bH1 (H : Heap) (c : Cx) (s : St) (M : List Bool) (h : HSc H) : HSc (bH1 H c s M) := hscW (fun b hb x hx => by
  simp only [List.mem_cons, List.not_mem_nil, or_false] at hb
  simp only [List.length_cons, List.length_nil]
  rcases hb with rfl | rfl | rfl | rfl
  · exact cx_sc _ _ x hx
  · exact wA_sc _ _ _ (by omega) x hx
  · exact bs_scoped _ _ x hx
  · exact st_sc _ _ x hx) h
def bH2 (H : Heap) (c : Cx) (s : St) (M : List Bool) (q : List UInt8) (n a : Nat) (t : St) : Heap := H ++ [⟨23, 0, cxc c⟩, wA (H.length + 2) M, wB M, ⟨34, 0, stc s⟩, ⟨5, 1, []⟩, rA q n a, ⟨34, 0, stc t⟩]
theorem hsc_bH2 (H : Heap) (c : Cx) (s : St) (M : List Bool) (q : List UInt8) (n a : Nat) (t : St) (h : HSc H) : HSc (bH2 H c s M q n a t) := hscW (fun b hb x hx => by
  simp only [List.mem_cons, List.not_mem_nil, or_false] at hb
  simp only [List.length_cons, List.length_nil]
  rcases hb with rfl | rfl | rfl | rfl | rfl | rfl | rfl
  · exact cx_sc _ _ x hx
  · exact wA_sc _ _ _ (by omega) x hx
  · exact bs_scoped _ _ x hx
  · exact st_sc _ _ x hx
  · cases hx
  · exact rA_sc _ _ _ _ x hx
  · exact st_sc _ _ x hx) h
set_option maxHeartbeats 8000000 in
set_option maxRecDepth 100000 in
theorem law_back (c : Cx) (q : Int) (l : List Mb) (g : Bool) (H : Heap) (hml : ∀ m ∈ l, m.lv.length = 384) (hll : l.length ≤ 9223372036854775807) : CallOk Try.prog 5 [.agg (cxc c), .int .i64 q, .slice (l.flatMap mbc) l.length g] H (.bool true) H := by
  have c1 := cxc_cell c
  have so := fun K => start_ok q K
  have l8 : ∀ t, (stc t).length = 8 := fun _ => rfl
  have c8 : ∀ t, (stc t).all PV.cell = true := fun _ => rfl
  have tk8 : ∀ t, List.take 8 (stc t) = stc t := fun _ => rfl
  have dk8 : ∀ t, List.drop 8 (stc t) = [] := fun _ => rfl
  have tk1 : List.take 4 (cxc c) = cxc c := rfl
  have l1 : (cxc c).length = 4 := rfl
  refine CallOk.body (F0 := [(0, .agg (cxc c)), (1, .int .i64 q), (2, .slice (l.flatMap mbc) l.length g)]) Try.func5 rfl Try.ntmps5 Try.results5 rfl (by kernel_rfl) rfl ?_
  (repeat refine PW.seq ?_); refine PW.rg rfl fun K hK => ?_; simp (maxSteps := 3000000) (disch := omega) only [go_sem, ↓reduceIte, reduceCtorEq, pappend, plen, c1, Nat.reduceAdd]; refine hK _ _ ?_; clear hK K
  (repeat refine PW.seq ?_); refine PW.rg rfl fun K hK => ?_; simp (maxSteps := 3000000) (disch := omega) only [go_sem, ↓reduceIte, reduceCtorEq, pappend, plen]; refine hK _ _ ?_; clear hK K
  (repeat refine PW.seq ?_); refine PW.cond (t := _) rfl (fun h => ?_) (fun h => ?_)
  · (repeat refine PW.seq ?_); refine PW.rg rfl fun K hK => ?_; simp (maxSteps := 3000000) (disch := omega) only [go_sem, ↓reduceIte, reduceCtorEq, pappend, plen]; refine hK _ _ ?_; clear hK K
    (refine PW.ret ⟨_, rfl, ?_⟩; first | refine .inl ⟨?_, rfl⟩ | refine Fin.base (.id' ?_ (.bool _)) | refine Fin.base (.id' ?_ (.int _ _)))
    rfl
  have h8 : l.length ≤ 8 := by have := of_decide_eq_false h; omega
  refine PW.skip ?_
  (repeat refine PW.seq ?_); refine PW.rg rfl fun K hK => ?_; simp (maxSteps := 3000000) (disch := omega) only [go_sem, ↓reduceIte, reduceCtorEq, pappend, plen]; refine VCx.call (neww_ok _) rfl ?_; simp (maxSteps := 3000000) (disch := omega) only [go_sem, ↓reduceIte, reduceCtorEq, pappend, plen]; refine hK _ _ ?_; clear hK K
  refine PW.view (Vs.ghostH (id := H.length + 1) (j := 0) 5 1 (hp1 _ _ _ _) rfl) ?_
  (repeat refine PW.seq ?_); refine PW.rg rfl fun K hK => ?_; simp (maxSteps := 3000000) (disch := omega) only [go_sem, ↓reduceIte, reduceCtorEq, pappend, plen, l8, c8, dk8]; refine VCx.call (so _) rfl ?_; simp (maxSteps := 3000000) (disch := omega) only [go_sem, ↓reduceIte, reduceCtorEq, pappend, plen, l8, c8, dk8]; refine hK _ _ ?_; clear hK K
  (repeat refine PW.seq ?_); refine PW.rg rfl fun K hK => ?_; simp (maxSteps := 3000000) (disch := omega) only [go_sem, ↓reduceIte, reduceCtorEq, pappend, plen]; refine hK _ _ ?_; clear hK K
  (repeat refine PW.seq ?_); refine PW.block (PW.loop ?_)
  suffices hl1 : ∀ (k : Nat) (M : List Bool) (s : St), k ≤ l.length → M.length ≤ k * 30000 → okL c (st0 q) (l.take k) → M = bitsL c (st0 q) (l.take k) → s = stL c (st0 q) (l.take k) → PL Try.prog _ _ [(1, .int .i64 q), (2, .slice (l.flatMap mbc) l.length g), (3, .ptr H.length 0 0), (7, .ptr (H.length + 1) 0 0), (8, .ptr (H.length + 3) 0 0), (9, .int .i64 (k : Int))] (bH1 H c s M) _ by
    exact PL.at [1, 2, 3, 7, 8, 9] (hl1 0 [] (st0 q) (by omega) (by simp) trivial rfl rfl) rfl rfl
  have lm := flat_len mbc 408 l (fun x hx => mbc_len x (hml x hx))
  have sm := fun K => samec_ok c K
  intro k M s hk hM hok hMe hse
  induction hd : l.length - k using Nat.strongRecOn generalizing k M s with
  | _ d ih =>
    refine PL.round ?_; (repeat refine PW.seq ?_); refine PW.rg rfl fun K hK => ?_; simp (maxSteps := 3000000) (disch := omega) only [go_sem, ↓reduceIte, reduceCtorEq, pappend, plen]; refine hK _ _ ?_; clear hK K
    (repeat refine PW.seq ?_); refine PW.cond (t := _) rfl (fun h => ?_) (fun h => ?_)
    · have h4 : k < l.length := by have := of_decide_eq_true h; omega
      have hat := flat_at mbc 408 l k h4 (fun x hx => mbc_len x (hml x hx))
      have hmk := hml l[k] (List.getElem_mem h4)
      have htk : l.take (k + 1) = l.take k ++ [l[k]] := List.take_succ_eq_append_getElem h4
      have hnext := ih (l.length - (k + 1)) (by omega) (k + 1)
      rw [htk, okL_app' , bitsL_app, stL_app, ← hMe, ← hse] at hnext
      generalize l[k] = m at *
      have m408 := mbc_len m hmk
      have po := fun (L : Heap) (a1 : L[H.length + 1]? = some (wA (H.length + 2) M)) (a2 : L[H.length + 2]? = some (wB M)) => mput_ok L (H.length + 1) (H.length + 2) M c m s a1 a2 (by omega) (by omega) hmk
      refine PW.skip ?_; (repeat refine PW.seq ?_); refine PW.block ?_
      (repeat refine PW.seq ?_)
      refine PW.view (Vs.place 34) ?_
      refine PW.eq rfl (show _ = H ++ [⟨23, 0, cxc c⟩, wA (H.length + 2) M, wB M, ⟨34, 0, stc s⟩, ⟨34, 0, []⟩] from List.append_assoc _ _ _) ?_
      by_cases hgood : (fmS c m && vstB s && vqB (s.q + m.dl)) = true
      · simp only [Bool.and_eq_true] at hgood
        obtain ⟨⟨g1, g2⟩, g3⟩ := hgood
        have e : mput c s m = (mbits c s m, mstate c s m, 0) := by unfold mput; rw [if_pos (by rw [g1, g2]; rfl), if_pos g3]
        simp only [e] at po
        obtain ⟨hq, hv, hdd⟩ := vst_b g2
        have hBl := (mbits_len (c := c) (fmd_of g1) hv hdd).1
        have hfin := hnext (M ++ mbits c s m) (mstate c s m) (by omega) (by rw [List.length_append, Nat.add_mul]; omega) ⟨hok, ⟨g1, g2, g3⟩, trivial⟩ (by rw [bitsL, bitsL, List.append_nil]) rfl rfl
        generalize M ++ mbits c s m = M1 at *
        generalize mstate c s m = u at *
        (repeat refine PW.seq ?_); refine PW.drawi [H.length + 1, H.length + 2, H.length + 4] [(7, [0, 1]), (32, [0, 1]), (10, [2])] [(10, 2)] [34] mix (by kernel_rfl) (by simp <;> omega) fun K hK => ?_
        simp (maxSteps := 3000000) (disch := omega) only [go_sem, ↓reduceIte, reduceCtorEq, pappend, plen, tk1, l1]
        refine VCj.read (fun _ _ => sm _) rfl ?_; simp (maxSteps := 3000000) (disch := omega) only [go_sem, ↓reduceIte, reduceCtorEq, pappend, plen, tk8, l8, hat, m408, lm]
        refine VCj.wrT (i := H.length + 1) (j := H.length + 2) (hp1 _ _ _ _) (hp2 _ _ _ _ _) (by omega) po (by simp (maxSteps := 3000000) (disch := omega) only [go_sem, ↓reduceIte, reduceCtorEq, pappend, plen]) (by simp (maxSteps := 3000000) (disch := omega) only [go_sem, ↓reduceIte, reduceCtorEq, pappend, plen]) (by simp (maxSteps := 3000000) (disch := omega) only [go_sem, ↓reduceIte, reduceCtorEq, pappend, plen]) (by simp (maxSteps := 3000000) (disch := omega) only [go_sem, ↓reduceIte, reduceCtorEq, pappend, plen]) rfl ?_
        simp (maxSteps := 3000000) (disch := omega) only [go_sem, ↓reduceIte, reduceCtorEq, pappend, plen, two, l8, c8, dk8, Nat.reduceAdd]
        refine hK _ _ ?_; clear hK K
        (repeat refine PW.seq ?_); refine PW.rg rfl fun K hK => ?_; simp (maxSteps := 3000000) (disch := omega) only [go_sem, ↓reduceIte, reduceCtorEq, pappend, plen]; refine hK _ _ ?_; clear hK K
        (repeat refine PW.seq ?_); refine PW.cond (t := _) rfl (fun h => ?_) (fun h => ?_)
        · cases h
        refine PW.skip ?_
        (repeat refine PW.seq ?_); refine PW.rg rfl fun K hK => ?_; simp (maxSteps := 3000000) (disch := omega) only [go_sem, ↓reduceIte, reduceCtorEq, pappend, plen, tk8, l8, c8, dk8, apn, aps]; refine hK _ _ ?_; clear hK K
        (repeat refine PW.seq ?_); refine PW.rg rfl fun K hK => ?_; simp (maxSteps := 3000000) (disch := omega) only [go_sem, ↓reduceIte, reduceCtorEq, pappend, plen]; refine hK _ _ ?_; clear hK K
        refine PL.keep [9, 1, 2, 3, 7, 8] ?_
        refine PL.view (Vs.trim (H1 := bH1 H c u M1) (hsc_bH1 H c u M1) (by simp [bH1]) (List.append_assoc _ [_, _, _, _] [_]).symm ?_) hfin
        rw [show (bH1 H c u M1).length = H.length + (0 + 1 + 1 + 1 + 1) by simp [bH1]]
        exact ⟨.id (.int _ _), .id (sl_scoped (mbl_sc l _)), .id (.ptr (by omega)), .id (.ptr (by omega)), .id (.ptr (by omega)), .id (.int _ _), trivial⟩
      · have e : ∃ e : Int, (e = 1 ∨ e = 2) ∧ mput c s m = ([], zSt, e) := by
          unfold mput
          cases h1 : (fmS c m && vstB s) with
          | false => exact ⟨1, .inl rfl, by rw [if_neg (by decide)]⟩
          | true =>
            rw [h1, Bool.true_and] at hgood
            exact ⟨2, .inr rfl, by rw [if_pos rfl, if_neg hgood]⟩
        obtain ⟨e, he, hpe⟩ := e
        simp only [hpe, List.append_nil] at po
        (repeat refine PW.seq ?_); refine PW.drawi [H.length + 1, H.length + 2, H.length + 4] [(7, [0, 1]), (32, [0, 1]), (10, [2])] [(10, 2)] [34] mix (by kernel_rfl) (by simp <;> omega) fun K hK => ?_
        simp (maxSteps := 3000000) (disch := omega) only [go_sem, ↓reduceIte, reduceCtorEq, pappend, plen, tk1, l1]
        refine VCj.read (fun _ _ => sm _) rfl ?_; simp (maxSteps := 3000000) (disch := omega) only [go_sem, ↓reduceIte, reduceCtorEq, pappend, plen, tk8, l8, hat, m408, lm]
        refine VCj.wrT (i := H.length + 1) (j := H.length + 2) (hp1 _ _ _ _) (hp2 _ _ _ _ _) (by omega) po (by simp (maxSteps := 3000000) (disch := omega) only [go_sem, ↓reduceIte, reduceCtorEq, pappend, plen]) (by simp (maxSteps := 3000000) (disch := omega) only [go_sem, ↓reduceIte, reduceCtorEq, pappend, plen]) (by simp (maxSteps := 3000000) (disch := omega) only [go_sem, ↓reduceIte, reduceCtorEq, pappend, plen]) (by simp (maxSteps := 3000000) (disch := omega) only [go_sem, ↓reduceIte, reduceCtorEq, pappend, plen]) rfl ?_
        simp (maxSteps := 3000000) (disch := omega) only [go_sem, ↓reduceIte, reduceCtorEq, pappend, plen, two, l8, c8, dk8, Nat.reduceAdd]
        refine hK _ _ ?_; clear hK K
        rcases he with rfl | rfl
        · (repeat refine PW.seq ?_); refine PW.rg rfl fun K hK => ?_; simp (maxSteps := 3000000) (disch := omega) only [go_sem, ↓reduceIte, reduceCtorEq, pappend, plen]; refine hK _ _ ?_; clear hK K
          (repeat refine PW.seq ?_); refine PW.cond (t := _) rfl (fun h => ?_) (fun h => ?_)
          rotate_left
          · cases h
          (repeat refine PW.seq ?_); refine PW.rg rfl fun K hK => ?_; simp (maxSteps := 3000000) (disch := omega) only [go_sem, ↓reduceIte, reduceCtorEq, pappend, plen]
          refine VCx.call (awake10 _) rfl ?_; simp (maxSteps := 3000000) (disch := omega) only [go_sem, ↓reduceIte, reduceCtorEq, pappend, plen]; refine hK _ _ ?_; clear hK K
          (refine PW.ret ⟨_, rfl, ?_⟩; first | refine .inl ⟨?_, rfl⟩ | refine Fin.base (.id' ?_ (.bool _)) | refine Fin.base (.id' ?_ (.int _ _)))
          rfl
        · (repeat refine PW.seq ?_); refine PW.rg rfl fun K hK => ?_; simp (maxSteps := 3000000) (disch := omega) only [go_sem, ↓reduceIte, reduceCtorEq, pappend, plen]; refine hK _ _ ?_; clear hK K
          (repeat refine PW.seq ?_); refine PW.cond (t := _) rfl (fun h => ?_) (fun h => ?_)
          rotate_left
          · cases h
          (repeat refine PW.seq ?_); refine PW.rg rfl fun K hK => ?_; simp (maxSteps := 3000000) (disch := omega) only [go_sem, ↓reduceIte, reduceCtorEq, pappend, plen]
          refine VCx.call (awake10 _) rfl ?_; simp (maxSteps := 3000000) (disch := omega) only [go_sem, ↓reduceIte, reduceCtorEq, pappend, plen]; refine hK _ _ ?_; clear hK K
          (refine PW.ret ⟨_, rfl, ?_⟩; first | refine .inl ⟨?_, rfl⟩ | refine Fin.base (.id' ?_ (.bool _)) | refine Fin.base (.id' ?_ (.int _ _)))
          rfl
    · have h5 : k = l.length := by have := of_decide_eq_false h; omega
      rw [h5, List.take_of_length_le (Nat.le_refl _)] at hok hMe hse
      refine PW.exit ?_
      clear ih
      have hMb : M.length ≤ 300000 := by rw [h5] at hM; omega
      have pw := payload_ok (H.length + 1) (H.length + 2) M (bH1 H c s M) (hp1 _ _ _ _) (hp2 _ _ _ _ _) (by omega)
      obtain ⟨p1, p2, p3, p4, p5⟩ := pk_payload M
      have hpl : (pk (M ++ [true])).length ≤ 100000000 := by rw [pk_len]; simp; omega
      have nr := newr_ok (pk (M ++ [true])) false (bH1 H c s M) hpl p1 p2
      rw [p3] at nr
      have hr0 : Rd (pk (M ++ [true])) M.length 0 (bitsL c (st0 q) l) := by
        rw [← hMe]
        exact ⟨by omega, fun j hj => by rw [Nat.zero_add]; exact p5 j hj⟩
      generalize pk (M ++ [true]) = Q at *
      unfold bH1 at pw nr
      (repeat refine PW.seq ?_); refine PW.rg rfl fun K hK => ?_; simp (maxSteps := 3000000) (disch := omega) only [go_sem, ↓reduceIte, reduceCtorEq, pappend, plen]
      refine VCx.call (pw) rfl ?_; simp (maxSteps := 3000000) (disch := omega) only [go_sem, ↓reduceIte, reduceCtorEq, pappend, plen]
      refine VCx.call (nr) rfl ?_; simp (maxSteps := 3000000) (disch := omega) only [go_sem, ↓reduceIte, reduceCtorEq, pappend, plen]; refine hK _ _ ?_; clear hK K
      (repeat refine PW.seq ?_); refine PW.rg rfl fun K hK => ?_; simp (maxSteps := 3000000) (disch := omega) only [go_sem, ↓reduceIte, reduceCtorEq, pappend, plen]; refine hK _ _ ?_; clear hK K
      (repeat refine PW.seq ?_); refine PW.cond (t := _) rfl (fun h => ?_) (fun h => ?_)
      · cases h
      refine PW.skip ?_
      (repeat refine PW.seq ?_); refine PW.rg rfl fun K hK => ?_; simp (maxSteps := 3000000) (disch := omega) only [go_sem, ↓reduceIte, reduceCtorEq, pappend, plen, l8, c8, dk8]; refine VCx.call (so _) rfl ?_; simp (maxSteps := 3000000) (disch := omega) only [go_sem, ↓reduceIte, reduceCtorEq, pappend, plen, l8, c8, dk8]; refine hK _ _ ?_; clear hK K
      (repeat refine PW.seq ?_); refine PW.rg rfl fun K hK => ?_; simp (maxSteps := 3000000) (disch := omega) only [go_sem, ↓reduceIte, reduceCtorEq, pappend, plen]; refine hK _ _ ?_; clear hK K
      (repeat refine PW.seq ?_); refine PW.block (PW.loop ?_)
      suffices hl2 : ∀ (k : Nat) (a : Nat) (t : St), k ≤ l.length → a ≤ M.length → Rd Q M.length a (bitsL c t (l.drop k)) → okL c t (l.drop k) → stL c t (l.drop k) = s → a + (bitsL c t (l.drop k)).length = M.length → PL Try.prog _ _ [(2, .slice (l.flatMap mbc) l.length g), (3, .ptr H.length 0 0), (8, .ptr (H.length + 3) 0 0), (12, .ptr (H.length + 5) 0 0), (14, .ptr (H.length + 6) 0 0), (15, .int .i64 (k : Int))] (bH2 H c s M Q M.length a t) _ by
        exact PL.at [2, 3, 8, 12, 14, 15] (hl2 0 0 (st0 q) (by omega) (by omega) hr0 hok hse.symm (by rw [hMe]; simp)) rfl rfl
      clear hr0 hok hse hMe pw nr
      intro k a t hk ha hrd hok hst hla
      induction hd2 : l.length - k using Nat.strongRecOn generalizing k a t with
      | _ d2 ih =>
        refine PL.round ?_; (repeat refine PW.seq ?_); refine PW.rg rfl fun K hK => ?_; simp (maxSteps := 3000000) (disch := omega) only [go_sem, ↓reduceIte, reduceCtorEq, pappend, plen]; refine hK _ _ ?_; clear hK K
        (repeat refine PW.seq ?_); refine PW.cond (t := _) rfl (fun h => ?_) (fun h => ?_)
        · have h4 : k < l.length := by have := of_decide_eq_true h; omega
          have hat := flat_at mbc 408 l k h4 (fun x hx => mbc_len x (hml x hx))
          have hmk := hml l[k] (List.getElem_mem h4)
          have hnext := ih (l.length - (k + 1)) (by omega) (k + 1)
          rw [List.drop_eq_getElem_cons h4] at hrd hok hst hla
          generalize l[k] = m at *
          obtain ⟨⟨g1, g2, g3⟩, hok2⟩ := hok
          simp only [bitsL, stL] at hrd hst hla
          rw [List.length_append] at hla
          have hm := mtkA_rd g1 g2 g3 hmk hrd.l
          have hr2 := hrd.r
          have tkc : ∀ L : Heap, L[H.length + 5]? = some (rA Q M.length a) → CallOk Try.prog 22 [.ptr (H.length + 5) 0 0, .agg (cxc c), .agg (stc t)] L (.tup [.agg (mbc m), .agg (stc (mstate c t m)), .int .i64 0]) (L.set (H.length + 5) (rA Q M.length (a + (mbits c t m).length))) := fun L hL =>
            ((mtake_ok (H.length + 5) Q M.length a c t L hL ha p4 hpl).mono (fun v H' h => by rw [hm] at h; exact ⟨h.1, h.2⟩)).one
          have hfin := hnext (a + (mbits c t m).length) (mstate c t m) (by omega) (by omega) hr2 hok2 hst (by omega) rfl
          clear hnext hr2 hok2 hst hrd hm
          have m408 := mbc_len m hmk
          have mcl := mbc_cell m
          have tkm : List.take 408 (mbc m) = mbc m := List.take_of_length_le (by omega)
          have hzl := zmv_len
          have dz : List.drop 408 zmv = [] := List.drop_of_length_le (by omega)
          have ne := neMb m hmk
          generalize mstate c t m = u at *
          generalize a + (mbits c t m).length = a1 at *
          refine PW.skip ?_; (repeat refine PW.seq ?_); refine PW.block ?_
          (repeat refine PW.seq ?_)
          refine PW.view (Vs.place 49) ?_
          refine PW.view (Vs.place 34) ?_
          refine PW.eq rfl (show _ = H ++ [⟨23, 0, cxc c⟩, wA (H.length + 2) M, wB M, ⟨34, 0, stc s⟩, ⟨5, 1, []⟩, rA Q M.length a, ⟨34, 0, stc t⟩, ⟨49, 0, []⟩, ⟨34, 0, []⟩] from (congrArg (· ++ [_]) (List.append_assoc _ [_, _, _, _, _, _, _] [_])).trans (List.append_assoc _ [_, _, _, _, _, _, _, _] [_])) ?_
          (repeat refine PW.seq ?_); refine PW.drawi [H.length + 5, H.length + 7, H.length + 8] [(12, [0]), (72, [0]), (16, [1]), (17, [2])] [(16, 1), (17, 2)] [74] mix (by kernel_rfl) (by simp <;> omega) fun K hK => ?_
          simp (maxSteps := 3000000) (disch := omega) only [go_sem, ↓reduceIte, reduceCtorEq, pappend, plen, tk1, l1]
          refine VCj.read (fun _ _ => sm _) rfl ?_; simp (maxSteps := 3000000) (disch := omega) only [go_sem, ↓reduceIte, reduceCtorEq, pappend, plen, tk8, l8, apn]
          refine VCj.wr1 (apn _ _ 5) (fun L hL _ => tkc L hL) (by simp (maxSteps := 3000000) (disch := omega) only [go_sem, ↓reduceIte, reduceCtorEq, pappend, plen]) (.inl rfl) rfl ?_
          simp (maxSteps := 3000000) (disch := omega) only [go_sem, ↓reduceIte, reduceCtorEq, pappend, plen, aps, apn, ↓zcMb, hzl, m408, mcl, dz, l8, c8, dk8, Nat.reduceAdd]
          refine hK _ _ ?_; clear hK K
          (repeat refine PW.seq ?_); refine PW.draw mix (by kernel_rfl) fun K hK => ?_; simp (maxSteps := 3000000) (disch := omega) only [go_sem, ↓reduceIte, reduceCtorEq, pappend, plen, apn, hat, m408, tkm, lm, ↓ne]; refine hK _ _ ?_; clear hK K
          (repeat refine PW.seq ?_); refine PW.cond (t := _) rfl (fun h => ?_) (fun h => ?_)
          · cases h
          refine PW.skip ?_
          (repeat refine PW.seq ?_); refine PW.rg rfl fun K hK => ?_; simp (maxSteps := 3000000) (disch := omega) only [go_sem, ↓reduceIte, reduceCtorEq, pappend, plen, tk8, l8, c8, dk8, apn, aps]; refine hK _ _ ?_; clear hK K
          (repeat refine PW.seq ?_); refine PW.rg rfl fun K hK => ?_; simp (maxSteps := 3000000) (disch := omega) only [go_sem, ↓reduceIte, reduceCtorEq, pappend, plen]; refine hK _ _ ?_; clear hK K
          refine PL.keep [15, 2, 3, 8, 12, 14] ?_
          refine PL.view (Vs.trim (H1 := bH2 H c s M Q M.length a1 u) (hsc_bH2 H c s M Q M.length a1 u) (by simp [bH2]) (List.append_assoc _ [_, _, _, _, _, _, _] [_, _]).symm ?_) hfin
          rw [show (bH2 H c s M Q M.length a1 u).length = H.length + (0 + 1 + 1 + 1 + 1 + 1 + 1 + 1) by simp [bH2]]
          exact ⟨.id (sl_scoped (mbl_sc l _)), .id (.ptr (by omega)), .id (.ptr (by omega)), .id (.ptr (by omega)), .id (.ptr (by omega)), .id (.int _ _), trivial⟩
        · have h6 : k = l.length := by have := of_decide_eq_false h; omega
          rw [h6, List.drop_of_length_le (Nat.le_refl _)] at hst hla
          simp only [stL, bitsL, List.length_nil, Nat.add_zero] at hst hla
          subst hst hla
          refine PW.exit ?_
          have lf := rleft_ok (H.length + 5) Q M.length M.length (bH2 H c t M Q M.length M.length t) (apn _ _ 5) (Nat.le_refl _) (by omega)
          rw [Nat.sub_self] at lf
          unfold bH2 at lf
          have es := eqSts t
          (repeat refine PW.seq ?_); refine PW.rg rfl fun K hK => ?_; simp (maxSteps := 3000000) (disch := omega) only [go_sem, ↓reduceIte, reduceCtorEq, pappend, plen]
          refine VCx.call (awake10 _) rfl ?_; simp (maxSteps := 3000000) (disch := omega) only [go_sem, ↓reduceIte, reduceCtorEq, pappend, plen]
          refine VCx.call (lf) rfl ?_; simp (maxSteps := 3000000) (disch := omega) only [go_sem, ↓reduceIte, reduceCtorEq, pappend, plen, apn, tk8, l8, ↓es]
          refine hK _ _ ?_; clear hK K
          (refine PW.ret ⟨_, rfl, ?_⟩; first | refine .inl ⟨?_, rfl⟩ | refine Fin.base (.id' ?_ (.bool _)) | refine Fin.base (.id' ?_ (.int _ _)))
          rfl

end Go.Proofs.Ytcabpncdgagihaa.Sc

namespace Go.Proofs.Ytcabpncdgagihaa.Lmb
set_option linter.all false
set_option linter.unusedVariables false
set_option linter.unusedSimpArgs false
open Go.ChangeShapes Go.WideShapes Go.ChangeAt Go.RowKit Pm Sc Lm

theorem law : ∀ xs, ArgsShp Try.prog Try.f5.params.toList xs → CallOk Try.prog 5 xs [] (.bool true) [] := by
  intro xs h
  rw [Try.params5] at h
  obtain ⟨x, r, rfl, hx, h⟩ := h.cons
  obtain ⟨y, r, rfl, hy, h⟩ := h.cons
  obtain ⟨z, r, rfl, hz, h⟩ := h.cons
  obtain rfl := h.nil
  obtain ⟨ps, hp, rfl⟩ := hx.agg (by simp [aggT, Try.underlying23])
  obtain ⟨c, rfl⟩ := shp_cx hp
  obtain ⟨q, hq, _⟩ := shp_int (hy.one (by simp [aggT, Try.underlying3]))
  obtain ⟨l, hl, hm, hg⟩ := (hz.one (by simp [aggT, Try.underlying30])).of_list (enc := mbc) (good := fun m => mbok m) Try.underlying30 (fun q hq => shp_mb hq)
  cases hq
  cases hl
  exact law_back c q l false [] (fun m hm => (hg m hm).1) (by simpa [maxLen] using hm)

set_option maxRecDepth 100000 in
theorem macroblockBack_lifted (os : Os) (started : os.Started) (H : Type) (enc : TypeId × Value → H) :
    ReturnsInHanded {} Try.checked os 5 .any (Rows.macroblockBackSpec.pre6 enc Try.prog Try.f5 Rows.macroblockBackRow.domain false) (Rows.macroblockBackSpec.post enc Try.prog Try.f5 false true false false) := by
  refine returnsInHanded_of_change (C := Try.checked) own started (by kernel_rfl) Try.func5
    (ChangeSpec.witness6 (enc := enc) (C := Try.checked) false ⟨#[], #[.agg #[.int .i64 0, .int .i64 0, .bool false, .bool false], .int .i64 0, .slice none 0 0], []⟩ 8 (by kernel_rfl) (by kernel_rfl) (by kernel_rfl) (by kernel_rfl)) ?_
  intro W base args ds gs before hval hW _ _
  exact law_call (P := Try.prog) (fn := Try.f5) (n := 12) (tb := 4) (b0 := base) (r := .any) law laidOut (by kernel_rfl) (by kernel_rfl) (by kernel_rfl) Try.underlying4 rfl
    (fun ds hd => match ds, hd with | [d0, d1, d2], _ => rfl) hval hW

theorem macroblockBack_holds : Rows.MacroblockBackSaid :=
  OpenClaim.holds_of_wide 5 Try.f5 rfl rfl rfl rfl rfl rfl rfl ⟨rfl, rfl, rfl, rfl, rfl⟩ rfl rfl rfl rfl rfl (by kernel_rfl) Try.func5 (by kernel_rfl)
    (of_decide_eq_true (by kernel_rfl)) (by unfold Func.isWrapper; first | (rw [if_pos (by decide +kernel)]; kernel_rfl) | (rw [if_neg (by decide +kernel)]; exact ⟨rfl, rfl⟩))
    (fun os started H enc _ => macroblockBack_lifted os started H enc)

end Go.Proofs.Ytcabpncdgagihaa.Lmb
