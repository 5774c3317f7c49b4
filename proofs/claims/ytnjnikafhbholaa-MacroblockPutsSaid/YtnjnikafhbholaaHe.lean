/-
  Contracts of chapter 10: the writer of macroblocks, part 2 (vectors).
-/
import Derived.Test.YtnjnikafhbholaaHg
namespace Go.Proofs.Ytnjnikafhbholaa.Sc
set_option linter.all false
set_option linter.unusedVariables false
set_option linter.unusedSimpArgs false
open Pm Ty Go.RowKit

def vXm (m : Mb) (d k : Nat) : Int := if d = 0 then (if k = 0 then m.va else m.vc) else (if k = 0 then m.ve else m.vg)
def vYm (m : Mb) (d k : Nat) : Int := if d = 0 then (if k = 0 then m.vb else m.vd) else (if k = 0 then m.vf else m.vh)
def slm (m : Mb) (d k : Nat) : Int := if d = 0 then (if k = 0 then m.sa else m.sb) else (if k = 0 then m.sc else m.sd)
def usd (m : Mb) (d : Nat) : Bool := if d = 0 then m.ua else m.ub
def sXs (s : St) (d : Nat) : Int := if d = 0 then s.va else s.vc
def sYs (s : St) (d : Nat) : Int := if d = 0 then s.vb else s.vd
def setV (s : St) (d : Nat) (x y : Int) : St := if d = 0 then ⟨s.q, s.da, s.db, s.dc, x, y, s.vc, s.vd⟩ else ⟨s.q, s.da, s.db, s.dc, s.va, s.vb, x, y⟩
def vec1 (c : Cx) (m : Mb) (s : St) (d k : Nat) : List Bool := (if m.fp || fcx c then [decide (slm m d k = 1)] else []) ++ (sg (vXm m d k - sXs s d) ++ sg (vYm m d k - sYs s d))
def nvM (m : Mb) : Nat := if m.fp then 2 else 1
/-- The last n vectors of a direction. -/
def vecsR (c : Cx) (m : Mb) (d : Nat) : Nat → St → List Bool × St
  | 0, s => ([], s)
  | n + 1, s => (vec1 c m s d (nvM m - (n + 1)) ++ (vecsR c m d n (setV s d (vXm m d (nvM m - (n + 1))) (vYm m d (nvM m - (n + 1))))).1, (vecsR c m d n (setV s d (vXm m d (nvM m - (n + 1))) (vYm m d (nvM m - (n + 1))))).2)
def dirB (c : Cx) (m : Mb) (s : St) (d : Nat) : List Bool × St := if usd m d then vecsR c m d (nvM m) s else ([], s)
/-- The last n directions. -/
def dirsR (c : Cx) (m : Mb) : Nat → St → List Bool × St
  | 0, s => ([], s)
  | n + 1, s => ((dirB c m s (1 - n)).1 ++ (dirsR c m n (dirB c m s (1 - n)).2).1, (dirsR c m n (dirB c m s (1 - n)).2).2)
def b2M (c : Cx) (m : Mb) (s : St) : List Bool := if m.k = 2 then (if bcx c then [m.fp] else []) ++ (dirsR c m 2 s).1 else []
def s2M (c : Cx) (m : Mb) (s : St) : St := if m.k = 2 then (dirsR c m 2 s).2 else s
/-- Vectors in range. -/
def vrM (m : Mb) : Prop := ∀ d k, (-63 ≤ vXm m d k ∧ vXm m d k ≤ 63) ∧ (-63 ≤ vYm m d k ∧ vYm m d k ≤ 63)
def vrS (s : St) : Prop := ∀ d, (-63 ≤ sXs s d ∧ sXs s d ≤ 63) ∧ (-63 ≤ sYs s d ∧ sYs s d ≤ 63)
theorem vrS_set {m : Mb} {s : St} (hm : vrM m) (hs : vrS s) (d k : Nat) : vrS (setV s d (vXm m d k) (vYm m d k)) := fun e => by
  have a := hm d k
  have b0 := hs 0
  have b1 := hs 1
  simp only [sXs, sYs, if_true, Nat.one_ne_zero, if_false] at b0 b1
  generalize vXm m d k = x at *
  generalize vYm m d k = y at *
  unfold setV sXs sYs
  by_cases hd : d = 0 <;> by_cases he : e = 0 <;> simp only [hd, he, if_true, if_false] <;> omega
theorem vec1_len {c : Cx} {m : Mb} {s : St} (hm : vrM m) (hs : vrS s) (d k : Nat) : (vec1 c m s d k).length ≤ 63 := by
  have a := hm d k
  have b := hs d
  have h1 := sg_len (vXm m d k - sXs s d) (by omega)
  have h2 := sg_len (vYm m d k - sYs s d) (by omega)
  unfold vec1
  split <;> simp only [List.length_append, List.length_cons, List.length_nil] <;> omega
theorem vecsR_len {c : Cx} {m : Mb} (hm : vrM m) (d : Nat) : ∀ n s, vrS s → (vecsR c m d n s).1.length ≤ n * 63 ∧ vrS (vecsR c m d n s).2
  | 0, s, hs => ⟨by simp [vecsR], hs⟩
  | n + 1, s, hs => by
    obtain ⟨i1, i2⟩ := vecsR_len (c := c) hm d n _ (vrS_set hm hs d (nvM m - (n + 1)))
    have := vec1_len (c := c) hm hs d (nvM m - (n + 1))
    refine ⟨?_, i2⟩
    simp only [vecsR, List.length_append]
    omega
theorem nvM_b (m : Mb) : nvM m ≤ 2 ∧ 1 ≤ nvM m := by unfold nvM; split <;> omega
theorem dirB_len {c : Cx} {m : Mb} {s : St} (hm : vrM m) (hs : vrS s) (d : Nat) : (dirB c m s d).1.length ≤ 126 ∧ vrS (dirB c m s d).2 := by
  unfold dirB
  have := nvM_b m
  obtain ⟨i1, i2⟩ := vecsR_len (c := c) hm d (nvM m) s hs
  split
  · exact ⟨by omega, i2⟩
  · exact ⟨by simp, hs⟩
theorem dirsR_len {c : Cx} {m : Mb} (hm : vrM m) : ∀ n s, vrS s → (dirsR c m n s).1.length ≤ n * 126
  | 0, s, hs => by simp [dirsR]
  | n + 1, s, hs => by
    obtain ⟨i1, i2⟩ := dirB_len (c := c) hm hs (1 - n)
    have := dirsR_len (c := c) hm n _ i2
    simp only [dirsR, List.length_append]
    omega

section
variable (H : Heap) (i j : Nat) (M : List Bool) (x0 x1 x3 : Blk) (c : Cx) (m : Mb) (s : St) (K : Heap)
theorem pHK : pH H i j M x0 x1 x3 c m s ++ K = two H i j (wA j M) (wB M) ++ ([x0, x1, mB m, x3, pB s i c (H.length + 2)] ++ K) := List.append_assoc _ _ _
theorem pHK_2 : (pH H i j M x0 x1 x3 c m s ++ K)[H.length + 2]? = some (mB m) := by rw [List.getElem?_append_left (by rw [pH_len]; omega)]; exact pH_2 ..
theorem pHK_4 : (pH H i j M x0 x1 x3 c m s ++ K)[H.length + 4]? = some (pB s i c (H.length + 2)) := by rw [List.getElem?_append_left (by rw [pH_len]; omega)]; exact pH_4 ..
theorem pHK_5 (V : Blk) : (pH H i j M x0 x1 x3 c m s ++ V :: K)[H.length + 5]? = some V := by rw [List.getElem?_append_right (by rw [pH_len]; omega), pH_len, Nat.sub_self]; rfl
theorem pHK_s5 (V B : Blk) : (pH H i j M x0 x1 x3 c m s ++ V :: K).set (H.length + 5) B = pH H i j M x0 x1 x3 c m s ++ B :: K := by rw [List.set_append_right _ _ (by rw [pH_len]; omega), pH_len, Nat.sub_self]; rfl
theorem pHK_set (B : Blk) : (pH H i j M x0 x1 x3 c m s ++ K).set (H.length + 4) B = (two H i j (wA j M) (wB M) ++ [x0, x1, mB m, x3, B]) ++ K := by rw [List.set_append_left _ _ (by rw [pH_len]; omega), pH_set]
theorem psPK (v : Int) (hi : i < H.length) (hj : j < H.length) (hne : i ≠ j) (hv : -32767 ≤ v ∧ v ≤ 32767) (hl : M.length ≤ 900000000) :
    CallOk Try.prog 139 [.ptr i 0 0, .int .i64 v] (pH H i j M x0 x1 x3 c m s ++ K) (.int .i64 0) (pH H i j (M ++ sg v) x0 x1 x3 c m s ++ K) := by
  rw [pHK, pHK]; exact psK i j M v H _ hi hj hne hv hl
theorem hsc_pH (M1 : List Bool) (s1 : St) (hi : i < H.length) (hj : j < H.length) (hne : i ≠ j) (h : HSc (pH H i j M x0 x1 x3 c m s)) : HSc (pH H i j M1 x0 x1 x3 c m s1) := by
  have e : pH H i j M1 x0 x1 x3 c m s1 = (two (pH H i j M x0 x1 x3 c m s) i j (wA j M1) (wB M1)).set (H.length + 4) (pB s1 i c (H.length + 2)) := by
    have : two (pH H i j M x0 x1 x3 c m s) i j (wA j M1) (wB M1) = pH H i j M1 x0 x1 x3 c m s := by
      unfold pH
      rw [two_app _ _ _ _ _ _ (by rw [two_len]; exact hi) (by rw [two_len]; exact hj), two_two _ _ _ _ _ _ _ hne]
    rw [this, pH_set]; rfl
  rw [e]
  have hl := pH_len H i j M x0 x1 x3 c m s
  refine HSc.set (hsc_two _ i j M1 (by omega) h) fun x hx => ?_
  rw [two_len, hl]
  simp only [pB, pC, List.mem_cons, List.not_mem_nil, or_false] at hx
  rcases hx with rfl | rfl | rfl | rfl | rfl | rfl | rfl | rfl | rfl | rfl | rfl | rfl | rfl | rfl
  all_goals first | exact .int _ _ | exact .bool _ | exact .ptr (by omega)
end

set_option maxHeartbeats 4000000 in
set_option maxRecDepth 100000 in
theorem predP (H : Heap) (i j : Nat) (M : List Bool) (x0 x1 x3 : Blk) (c : Cx) (m : Mb) (s : St) (hi : i < H.length) (hj : j < H.length) (hne : i ≠ j) (hl : M.length ≤ 800000000) (hm : vrM m) (hs : vrS s) :
    CallOk Try.prog 104 [.ptr (H.length + 4) 0 0] (pH H i j M x0 x1 x3 c m s) (.tup []) (pH H i j (M ++ b2M c m s) x0 x1 x3 c m (s2M c m s)) := by
  have h4 := fun M s => pH_4 H i j M x0 x1 x3 c m s
  have h2 := fun M s => pH_2 H i j M x0 x1 x3 c m s
  have bo := fun K => bcx_ok c K
  have fl := fun M s b hl => flagP H i j M x0 x1 x3 c m s b hi hj hne hl
  have ps := fun M s v hv hl => psP H i j M x0 x1 x3 c m s v hi hj hne hv hl
  have ve := fun M s => vecs_ok m (H.length + 2) _ (h2 M s)
  have se := fun M s => sel_ok c m (H.length + 2) _ (h2 M s)
  by_cases hk : m.k = 2
  rotate_left
  · have e1 : b2M c m s = [] := by unfold b2M; rw [if_neg hk]
    have e2 : s2M c m s = s := by unfold s2M; rw [if_neg hk]
    rw [e1, e2, List.append_nil]
    have d1 : decide (m.k = 2) = false := decide_eq_false hk
    refine CallOk.body (F0 := [(0, .ptr (H.length + 4) 0 0)]) Try.func104 rfl Try.ntmps104 Try.results104 rfl (by kernel_rfl) rfl ?_
    (repeat refine PW.seq ?_); refine PW.rg rfl fun K hK => ?_; simp (maxSteps := 3000000) (disch := omega) only [go_sem, ↓reduceIte, reduceCtorEq, pappend, plen, h4, pB, pC, h2, mB, mbc]; refine hK _ _ ?_; clear hK K
    (repeat refine PW.seq ?_); refine PW.cond (t := _) rfl (fun h => ?_) (fun h => ?_)
    rotate_left
    · cases h
    refine PW.ret ?_
    exact Exists.intro _ (And.intro rfl Fin.now)
  have e1 : b2M c m s = (if bcx c then [m.fp] else []) ++ (dirsR c m 2 s).1 := by unfold b2M; rw [if_pos hk]
  have e2 : s2M c m s = (dirsR c m 2 s).2 := by unfold s2M; rw [if_pos hk]
  rw [e1, e2]
  have hTl := dirsR_len (c := c) hm 2 s hs
  generalize hS : (dirsR c m 2 s).2 = S
  generalize hT : M ++ ((if bcx c then [m.fp] else []) ++ (dirsR c m 2 s).1) = T
  have hTb : T.length ≤ 800001000 := by
    rw [← hT]
    simp only [List.length_append]
    split <;> simp <;> omega
  refine CallOk.body (F0 := [(0, .ptr (H.length + 4) 0 0)]) Try.func104 rfl Try.ntmps104 Try.results104 rfl (by kernel_rfl) rfl ?_
  (repeat refine PW.seq ?_); refine PW.rg rfl fun K hK => ?_; simp (maxSteps := 3000000) (disch := omega) only [go_sem, ↓reduceIte, reduceCtorEq, pappend, plen, h4, pB, pC, h2, mB, mbc]; refine hK _ _ ?_; clear hK K
  (repeat refine PW.seq ?_); refine PW.cond (t := _) rfl (fun h => ?_) (fun h => ?_)
  · cases h
  refine PW.skip ?_
  have k2 : (mbc m)[3]? = some (.bool m.fp) := rfl
  have k1 : List.take 2 (List.drop 1 (mbc m)) = [.bool m.ua, .bool m.ub] := rfl
  suffices hl1 : ∀ (d : Nat) (M1 : List Bool) (s1 : St), d ≤ 2 → vrS s1 → M1 ++ (dirsR c m (2 - d) s1).1 = T → (dirsR c m (2 - d) s1).2 = S → PL Try.prog _ _ [(0, .ptr (H.length + 4) 0 0), (34, .agg [.bool m.ua, .bool m.ub]), (35, .int .i64 (d : Int))] (pH H i j M1 x0 x1 x3 c m s1) _ by
    (repeat refine PW.seq ?_); refine PW.rg rfl fun K hK => ?_; simp (maxSteps := 3000000) (disch := omega) only [go_sem, ↓reduceIte, reduceCtorEq, pappend, plen, h4, pB, pC]; refine VCx.call (bo _) rfl ?_; simp (maxSteps := 3000000) (disch := omega) only [go_sem, ↓reduceIte, reduceCtorEq, pappend, plen, h4, pB, pC]; refine hK _ _ ?_; clear hK K
    cases hbv : bcx c with
    | false =>
      (repeat refine PW.seq ?_); refine PW.cond (t := _) rfl (fun h => ?_) (fun h => ?_)
      · cases h
      refine PW.skip ?_
      rw [hbv, if_neg (by decide), List.nil_append] at hT
      (repeat refine PW.seq ?_); refine PW.rg rfl fun K hK => ?_; simp (maxSteps := 3000000) (disch := omega) only [go_sem, ↓reduceIte, reduceCtorEq, pappend, plen, h4, pB, pC, h2, mB, k1]; refine hK _ _ ?_; clear hK K
      (repeat refine PW.seq ?_); refine PW.block (PW.loop ?_)
      exact PL.at [0, 34, 35] (hl1 0 M s (by omega) hs hT hS) rfl rfl
    | true =>
      (repeat refine PW.seq ?_); refine PW.cond (t := _) rfl (fun h => ?_) (fun h => ?_)
      rotate_left
      · cases h
      rw [hbv, if_pos rfl, ← List.append_assoc] at hT
      have fl1 := fl M s m.fp (by omega)
      (repeat refine PW.seq ?_); refine PW.rg rfl fun K hK => ?_; simp (maxSteps := 3000000) (disch := omega) only [go_sem, ↓reduceIte, reduceCtorEq, pappend, plen, h4, pB, pC, h2, mB, k2]
      refine VCx.call (fl1) rfl ?_; simp (maxSteps := 3000000) (disch := omega) only [go_sem, ↓reduceIte, reduceCtorEq, pappend, plen]; refine hK _ _ ?_; clear hK K
      (repeat refine PW.seq ?_); refine PW.rg rfl fun K hK => ?_; simp (maxSteps := 3000000) (disch := omega) only [go_sem, ↓reduceIte, reduceCtorEq, pappend, plen, h4, pB, pC, h2, mB, k1]; refine hK _ _ ?_; clear hK K
      (repeat refine PW.seq ?_); refine PW.block (PW.loop ?_)
      exact PL.at [0, 34, 35] (hl1 0 _ s (by omega) hs hT hS) rfl rfl
  intro d M1 s1 hd hs1 hM1 hS1
  induction hdd : 2 - d using Nat.strongRecOn generalizing d M1 s1 with
  | _ dd ih =>
    refine PL.round ?_; (repeat refine PW.seq ?_); refine PW.rg rfl fun K hK => ?_; simp (maxSteps := 3000000) (disch := omega) only [go_sem, ↓reduceIte, reduceCtorEq, pappend, plen]; refine hK _ _ ?_; clear hK K
    (repeat refine PW.seq ?_); refine PW.cond (t := _) rfl (fun h => ?_) (fun h => ?_)
    rotate_left
    · have h6 : d = 2 := by have := of_decide_eq_false h; omega
      subst h6
      refine PW.exit ?_
      simp only [Nat.sub_self, dirsR, List.append_nil] at hM1 hS1
      subst hM1 hS1
      exact Exists.intro _ (And.intro rfl Fin.now)
    have h6 : d < 2 := by have := of_decide_eq_true h; omega
    obtain ⟨n', hn'⟩ : ∃ n', 2 - d = n' + 1 := ⟨1 - d, by omega⟩
    have hd1 : 1 - n' = d := by omega
    rw [hn', dirsR, hd1] at hM1 hS1
    have hnx := fun M1 s1 => ih (2 - (d + 1)) (by omega) (d + 1) M1 s1 (by omega)
    rw [show 2 - (d + 1) = n' by omega] at hnx
    have hT1 : M1.length ≤ 800001000 := by
      have : M1.length ≤ T.length := by rw [← hM1, List.length_append]; omega
      omega
    have hus : ([.bool m.ua, .bool m.ub] : List PV)[d]? = some (.bool (usd m d)) := by
      have : d = 0 ∨ d = 1 := by omega
      rcases this with rfl | rfl <;> rfl
    have hdb : dirB c m s1 d = if usd m d then vecsR c m d (nvM m) s1 else ([], s1) := rfl
    refine PW.skip ?_; (repeat refine PW.seq ?_); refine PW.block ?_
    (repeat refine PW.seq ?_); refine PW.rg rfl fun K hK => ?_; simp (maxSteps := 3000000) (disch := omega) only [go_sem, ↓reduceIte, reduceCtorEq, pappend, plen, hus]; refine hK _ _ ?_; clear hK K
    (repeat refine PW.seq ?_); refine PW.rg rfl fun K hK => ?_; simp (maxSteps := 3000000) (disch := omega) only [go_sem, ↓reduceIte, reduceCtorEq, pappend, plen]; refine hK _ _ ?_; clear hK K
    cases hu : usd m d with
    | false =>
      rw [hu, if_neg (by decide)] at hdb
      rw [hdb] at hM1 hS1
      (repeat refine PW.seq ?_); refine PW.cond (t := _) rfl (fun h => ?_) (fun h => ?_)
      rotate_left
      · cases h
      refine PW.exit ?_
      (repeat refine PW.seq ?_); refine PW.rg rfl fun K hK => ?_; simp (maxSteps := 3000000) (disch := omega) only [go_sem, ↓reduceIte, reduceCtorEq, pappend, plen]; refine hK _ _ ?_; clear hK K
      exact PL.at [0, 34, 35] (hnx M1 s1 hs1 hM1 hS1 rfl) rfl rfl
    | true =>
      rw [hu, if_pos rfl] at hdb
      rw [hdb] at hM1 hS1
      (repeat refine PW.seq ?_); refine PW.cond (t := _) rfl (fun h => ?_) (fun h => ?_)
      · cases h
      refine PW.skip ?_
      have hnv := nvM_b m
      have vo := ve M1 s1
      have env : (if m.fp then (2 : Int) else 1) = ((nvM m : Nat) : Int) := by unfold nvM; cases m.fp <;> rfl
      rw [env] at vo
      (repeat refine PW.seq ?_); refine PW.rg rfl fun K hK => ?_; simp (maxSteps := 3000000) (disch := omega) only [go_sem, ↓reduceIte, reduceCtorEq, pappend, plen, h4, pB, pC]; refine VCx.call (vo) rfl ?_; simp (maxSteps := 3000000) (disch := omega) only [go_sem, ↓reduceIte, reduceCtorEq, pappend, plen, h4, pB, pC]; refine hK _ _ ?_; clear hK K
      (repeat refine PW.seq ?_); refine PW.block (PW.loop ?_)
      suffices hl2 : ∀ (k : Nat) (M2 : List Bool) (s2 : St), k ≤ nvM m → vrS s2 → M2 ++ ((vecsR c m d (nvM m - k) s2).1 ++ (dirsR c m n' (vecsR c m d (nvM m - k) s2).2).1) = T → (dirsR c m n' (vecsR c m d (nvM m - k) s2).2).2 = S →
          PL Try.prog _ _ [(0, .ptr (H.length + 4) 0 0), (2, .int .i64 (d : Int)), (34, .agg [.bool m.ua, .bool m.ub]), (35, .int .i64 (d : Int)), (45, .int .i64 (nvM m : Int)), (46, .int .i64 (k : Int))] (pH H i j M2 x0 x1 x3 c m s2) _ by
        exact PL.at [0, 2, 34, 35, 45, 46] (hl2 0 M1 s1 (by omega) hs1 hM1 hS1) rfl rfl
      clear ih hM1 hS1 hs1 hT1 hdb vo
      intro k M2 s2 hk2 hs2 hM2 hS2
      induction hkk : nvM m - k using Nat.strongRecOn generalizing k M2 s2 with
      | _ kk ih2 =>
        refine PL.round ?_; (repeat refine PW.seq ?_); refine PW.rg rfl fun K hK => ?_; simp (maxSteps := 3000000) (disch := omega) only [go_sem, ↓reduceIte, reduceCtorEq, pappend, plen]; refine hK _ _ ?_; clear hK K
        (repeat refine PW.seq ?_); refine PW.cond (t := _) rfl (fun h => ?_) (fun h => ?_)
        rotate_left
        · have h7 : k = nvM m := by have := of_decide_eq_false h; omega
          subst h7
          refine PW.exit ?_
          simp only [Nat.sub_self, vecsR, List.nil_append] at hM2 hS2
          (repeat refine PW.seq ?_); refine PW.rg rfl fun K hK => ?_; simp (maxSteps := 3000000) (disch := omega) only [go_sem, ↓reduceIte, reduceCtorEq, pappend, plen]; refine hK _ _ ?_; clear hK K
          exact PL.at [0, 34, 35] (hnx M2 s2 hs2 hM2 hS2 rfl) rfl rfl
        have h7 : k < nvM m := by have := of_decide_eq_true h; omega
        obtain ⟨n2, hn2⟩ : ∃ n2, nvM m - k = n2 + 1 := ⟨nvM m - k - 1, by omega⟩
        have hk1 : nvM m - (n2 + 1) = k := by omega
        rw [hn2, vecsR, hk1] at hM2 hS2
        have hnx2 := fun M1 s1 => ih2 (nvM m - (k + 1)) (by omega) (k + 1) M1 s1 (by omega)
        rw [show nvM m - (k + 1) = n2 by omega] at hnx2
        clear ih2
        have hT2 : M2.length ≤ 800001000 := by
          have : M2.length ≤ T.length := by rw [← hM2, List.length_append]; omega
          omega
        refine PW.skip ?_; (repeat refine PW.seq ?_); refine PW.block ?_
        (repeat refine PW.seq ?_); refine PW.rg rfl fun K hK => ?_; simp (maxSteps := 3000000) (disch := omega) only [go_sem, ↓reduceIte, reduceCtorEq, pappend, plen]; refine hK _ _ ?_; clear hK K
        have se1 := se M2 s2
        (repeat refine PW.seq ?_); refine PW.drawt [] [] mix (by kernel_rfl) fun K hK => ?_; simp (maxSteps := 3000000) (disch := omega) only [go_sem, ↓reduceIte, reduceCtorEq, pappend, plen, h4, pB, pC]
        refine VCj.now (se1) rfl ?_; simp (maxSteps := 3000000) (disch := omega) only [go_sem, ↓reduceIte, reduceCtorEq, pappend, plen]; refine hK _ _ ?_; clear hK K
        have hd01 : d = 0 ∨ d = 1 := by omega
        have hk01 : k = 0 ∨ k = 1 := by omega
        have kS : (mbc m)[13 + d * 2 + k]? = some (.int .i64 (slm m d k)) := by
          rcases hd01 with rfl | rfl <;> rcases hk01 with rfl | rfl <;> rfl
        have kV : List.take 2 (List.drop (5 + d * 4 + k * 2) (mbc m)) = [.int .i64 (vXm m d k), .int .i64 (vYm m d k)] := by
          rcases hd01 with rfl | rfl <;> rcases hk01 with rfl | rfl <;> rfl
        have kX : ∀ mi, (pC s2 i c mi)[4 + d * 2]? = some (.int .i64 (sXs s2 d)) := fun mi => by
          rcases hd01 with rfl | rfl <;> rfl
        have kY : ∀ mi, (pC s2 i c mi)[4 + d * 2 + 1]? = some (.int .i64 (sYs s2 d)) := fun mi => by
          rcases hd01 with rfl | rfl <;> rfl
        have hve : vec1 c m s2 d k = (if m.fp || fcx c then [decide (slm m d k = 1)] else []) ++ (sg (vXm m d k - sXs s2 d) ++ sg (vYm m d k - sYs s2 d)) := rfl
        have hX := (hm d k).1
        have hY := (hm d k).2
        have hX' := (hs2 d).1
        have hY' := (hs2 d).2
        have hs3 := vrS_set hm hs2 d k
        have hse1 : fl = fl := rfl
        suffices hv : ∀ M3 : List Bool, M3 ++ (sg (vXm m d k - sXs s2 d) ++ (sg (vYm m d k - sYs s2 d) ++ ((vecsR c m d n2 (setV s2 d (vXm m d k) (vYm m d k))).1 ++ (dirsR c m n' (vecsR c m d n2 (setV s2 d (vXm m d k) (vYm m d k))).2).1))) = T → M3.length ≤ 800001010 →
            PW Try.prog _ _ [(0, .ptr (H.length + 4) 0 0), (2, .int .i64 (d : Int)), (4, .int .i64 (k : Int)), (34, .agg [.bool m.ua, .bool m.ub]), (35, .int .i64 (d : Int)), (45, .int .i64 (nvM m : Int)), (46, .int .i64 (k : Int))] (pH H i j M3 x0 x1 x3 c m s2) _ by
          cases hsel : (m.fp || fcx c) with
          | false =>
            (repeat refine PW.seq ?_); refine PW.cond (t := _) rfl (fun h => ?_) (fun h => ?_)
            · cases h
            refine PW.skip ?_
            rw [hve, hsel, if_neg (by decide), List.nil_append, List.append_assoc, List.append_assoc] at hM2
            exact PW.at [0, 2, 4, 34, 35, 45, 46] (hv M2 hM2 (by omega)) rfl rfl
          | true =>
            (repeat refine PW.seq ?_); refine PW.cond (t := _) rfl (fun h => ?_) (fun h => ?_)
            rotate_left
            · cases h
            rw [hve, hsel, if_pos rfl, List.append_assoc, List.append_assoc, List.append_assoc, ← List.append_assoc M2] at hM2
            have fl1 := fl M2 s2 (decide (slm m d k = 1)) (by omega)
            have hbe : (slm m d k == 1) = decide (slm m d k = 1) := rfl
            (repeat refine PW.seq ?_); refine PW.rg rfl fun K hK => ?_; simp (maxSteps := 3000000) (disch := omega) only [go_sem, ↓reduceIte, reduceCtorEq, pappend, plen, h4, pB, pC, h2, mB, kS, hbe]
            refine VCx.call (fl1) rfl ?_; simp (maxSteps := 3000000) (disch := omega) only [go_sem, ↓reduceIte, reduceCtorEq, pappend, plen]; refine hK _ _ ?_; clear hK K
            exact PW.at [0, 2, 4, 34, 35, 45, 46] (hv _ hM2 (by simp; omega)) rfl rfl
        intro M3 hM3 hT3
        have b1 := sg_len (vXm m d k - sXs s2 d) (by omega)
        have p1 := psPK H i j M3 x0 x1 x3 c m s2 [⟨95, 0, [.int .i64 (vXm m d k), .int .i64 (vYm m d k)]⟩] (vXm m d k - sXs s2 d) hi hj hne (by omega) (by omega)
        have p2 := psPK H i j (M3 ++ sg (vXm m d k - sXs s2 d)) x0 x1 x3 c m s2 [⟨95, 0, [.int .i64 (vXm m d k), .int .i64 (vYm m d k)]⟩] (vYm m d k - sYs s2 d) hi hj hne (by omega) (by rw [List.length_append]; omega)
        rw [← List.append_assoc, ← List.append_assoc] at hM3
        generalize hM4 : M3 ++ sg (vXm m d k - sXs s2 d) ++ sg (vYm m d k - sYs s2 d) = M4 at *
        have q4 := fun M => pHK_4 H i j M x0 x1 x3 c m s2 [⟨95, 0, [.int .i64 (vXm m d k), .int .i64 (vYm m d k)]⟩]
        have q5 := fun M V => pHK_5 H i j M x0 x1 x3 c m s2 [] V
        have r5 := fun M V B => pHK_s5 H i j M x0 x1 x3 c m s2 [] V B
        have hset := fun B => pHK_set H i j M4 x0 x1 x3 c m s2 [⟨95, 0, [.int .i64 (vXm m d k), .int .i64 (vYm m d k)]⟩] B
        have pc8 : ∀ mi, (pC s2 i c mi)[8]? = some (.ptr i 0 0) := fun _ => rfl
        have pcl : ∀ mi, (pC s2 i c mi).length = 14 := fun _ => rfl
        have hpl := fun M s => pH_len H i j M x0 x1 x3 c m s
        have hca : (mbc m).length = 24 + (is m.lv).length := by simp [mbc]; omega
        (repeat refine PW.seq ?_); refine PW.rg rfl fun K hK => ?_; simp (maxSteps := 3000000) (disch := omega) only [go_sem, ↓reduceIte, reduceCtorEq, pappend, plen, h4, pB, pC, h2, mB, kV, hpl, hca, q5, r5]; refine hK _ _ ?_; clear hK K
        (repeat refine PW.seq ?_); refine PW.drawt [] [] mix (by kernel_rfl) fun K hK => ?_; simp (maxSteps := 3000000) (disch := omega) only [go_sem, ↓reduceIte, reduceCtorEq, pappend, plen, q4, q5, pB, kX, hpl, pc8]
        refine VCj.now (p1) rfl ?_; simp (maxSteps := 3000000) (disch := omega) only [go_sem, ↓reduceIte, reduceCtorEq, pappend, plen]; refine hK _ _ ?_; clear hK K
        (repeat refine PW.seq ?_); refine PW.drawt [] [] mix (by kernel_rfl) fun K hK => ?_; simp (maxSteps := 3000000) (disch := omega) only [go_sem, ↓reduceIte, reduceCtorEq, pappend, plen, q4, q5, pB, kY, hpl, pc8]
        refine VCj.now (p2) rfl ?_; simp (maxSteps := 3000000) (disch := omega) only [go_sem, ↓reduceIte, reduceCtorEq, pappend, plen]; refine hK _ _ ?_; clear hK K
        (repeat refine PW.seq ?_); refine PW.drawt [] [] mix (by kernel_rfl) fun K hK => ?_; simp (maxSteps := 3000000) (disch := omega) only [go_sem, ↓reduceIte, reduceCtorEq, pappend, plen, q4, q5, pB, hpl, hset, pcl]
        have hcell : List.take (4 + d * 2) (pC s2 i c (H.length + 2)) ++ PV.int .i64 (vXm m d k) :: PV.int .i64 (vYm m d k) :: List.drop (4 + d * 2 + (1 + 1)) (pC s2 i c (H.length + 2)) = pC (setV s2 d (vXm m d k) (vYm m d k)) i c (H.length + 2) := by
          rcases hd01 with rfl | rfl <;> rfl
        rw [hcell]
        refine hK _ _ ?_; clear hK K
        (repeat refine PW.seq ?_); refine PW.rg rfl fun K hK => ?_; simp (maxSteps := 3000000) (disch := omega) only [go_sem, ↓reduceIte, reduceCtorEq, pappend, plen]; refine hK _ _ ?_; clear hK K
        refine PL.view (Vs.trim (F1 := [(0, .ptr (H.length + 4) 0 0), (2, .int .i64 (d : Int)), (34, .agg [.bool m.ua, .bool m.ub]), (35, .int .i64 (d : Int)), (45, .int .i64 (nvM m : Int)), (46, .int .i64 ((k + 1 : Nat) : Int))]) (H1 := pH H i j M4 x0 x1 x3 c m (setV s2 d (vXm m d k) (vYm m d k))) (hsc_pH H i j M x0 x1 x3 c m s M4 _ hi hj hne) (by rw [pH_len, pH_len]; exact Nat.le_refl _) (List.append_assoc _ [_, _, _, _, _] [_]).symm ?_) (hnx2 M4 _ hs3 hM3 hS2 rfl)
        rw [pH_len]
        refine ⟨.id (.ptr (by omega)), .id (.int _ _), .id (ag_scoped fun x hx => ?_), .id (.int _ _), .id (.int _ _), .id (.int _ _), trivial⟩
        simp only [List.mem_cons, List.not_mem_nil, or_false] at hx
        rcases hx with rfl | rfl <;> exact .bool _

end Go.Proofs.Ytnjnikafhbholaa.Sc
