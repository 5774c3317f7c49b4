/-
  Parts of the proof, put together in one text. No condition.
-/
import Derived.Test.YtahomnplappbpaaGreatDoorW34
import Derived.Test.YtahomnplappbpaaGreatDoorW27
namespace Go.Proofs.YtahomnplappbpaaGreatDoor.Sc
set_option linter.all false
set_option linter.unusedVariables false
set_option linter.unusedSimpArgs false
open Pm Ty Go.RowKit

/-! ### directions by number -/
def v1 (m : Mb) (d : Nat) : Int := if d = 0 then m.va else m.ve
def v2 (m : Mb) (d : Nat) : Int := if d = 0 then m.vb else m.vf
def v3 (m : Mb) (d : Nat) : Int := if d = 0 then m.vc else m.vg
def v4 (m : Mb) (d : Nat) : Int := if d = 0 then m.vd else m.vh
def s1 (m : Mb) (d : Nat) : Int := if d = 0 then m.sa else m.sc
def s2 (m : Mb) (d : Nat) : Int := if d = 0 then m.sb else m.sd
def us (m : Mb) (d : Nat) : Bool := if d = 0 then m.ua else m.ub
def dirD (c : Cx) (m : Mb) (pa fu fi : Fm) (d : Nat) (mx my : Int) : Fm × Int := dirP c m.fp (v1 m d) (v2 m d) (v3 m d) (v4 m d) (s1 m d) (s2 m d) pa fu fi (d : Int) mx my
def cntD (m : Mb) (d : Nat) : Nat := (if 0 < d ∧ m.ua = true then 1 else 0) + (if 1 < d ∧ m.ub = true then 1 else 0)
def fin2 : List Fm → Fm
  | [] => f0
  | [a] => a
  | a :: b :: _ => mnF a b
def goP (c : Cx) (m : Mb) (pa fu fi : Fm) (mx my : Int) : Nat → List Fm → Fm × Int
  | 0, l => (fin2 l, 0)
  | n + 1, l => if us m (1 - n) = true then (if (dirD c m pa fu fi (1 - n) mx my).2 ≠ 0 then (f0, (dirD c m pa fu fi (1 - n) mx my).2) else goP c m pa fu fi mx my n (l ++ [(dirD c m pa fu fi (1 - n) mx my).1])) else goP c m pa fu fi mx my n l
theorem dirP_bad {c : Cx} {fp : Bool} {va vb vc vd sa sb : Int} {pa fu fi : Fm} {d mx my : Int} (h : (dirP c fp va vb vc vd sa sb pa fu fi d mx my).2 ≠ 0) : (dirP c fp va vb vc vd sa sb pa fu fi d mx my).1 = f0 := by
  unfold dirP at h ⊢
  by_cases h1 : (refS c pa fu fi d sa).2 ≠ 0
  · rw [if_pos h1]
  · rw [if_neg h1] at h ⊢
    generalize (refS c pa fu fi d sa).1 = g at h ⊢
    cases fp
    · rw [if_neg (by simp)] at h ⊢
      unfold prdS at h ⊢
      split at h
      · rename_i a
        rw [if_pos a]
        split at h
        · exact absurd rfl h
        · rename_i b
          rw [if_neg b]
      · rename_i a
        rw [if_neg a]
    · rw [if_pos rfl] at h ⊢
      unfold fldS at h ⊢
      split at h
      · exact absurd rfl h
      · rename_i a
        rw [if_neg a]
theorem goP_prS (c : Cx) (m : Mb) (pa fu fi : Fm) (mx my : Int) (h : m.ua = true ∨ m.ub = true) : goP c m pa fu fi mx my 2 [] = prS c m pa fu fi mx my := by
  have d0 : dirD c m pa fu fi 0 mx my = dir0 c m pa fu fi mx my := rfl
  have d1 : dirD c m pa fu fi 1 mx my = dir1 c m pa fu fi mx my := rfl
  have u0 : us m 0 = m.ua := rfl
  have u1 : us m 1 = m.ub := rfl
  have e0 : 1 - 1 = 0 := rfl
  have e1 : 1 - 0 = 1 := rfl
  unfold prS
  rw [goP, e0, u0, d0]
  generalize dir0 c m pa fu fi mx my = r0
  cases ha : m.ua
  · rw [if_neg (by simp), if_neg (by simp), goP, e1, u1, d1]
    have hbad : (dir1 c m pa fu fi mx my).2 ≠ 0 → (dir1 c m pa fu fi mx my).1 = f0 := dirP_bad
    generalize dir1 c m pa fu fi mx my = r1 at hbad ⊢
    rw [ha] at h
    have hb : m.ub = true := by simpa using h
    rw [hb, if_pos rfl]
    obtain ⟨g, e⟩ := r1
    by_cases he : e = 0
    · subst he; simp [goP, fin2]
    · rw [if_pos (by exact he)]
      exact Prod.ext (hbad he).symm rfl
  · rw [if_pos rfl, if_pos rfl]
    by_cases he : r0.2 = 0
    · rw [if_neg (by simp [he]), if_neg (by simp [he]), goP, e1, u1, d1]
      generalize dir1 c m pa fu fi mx my = r1
      cases hb : m.ub
      · rw [if_neg (by simp), if_neg (by simp)]
        obtain ⟨g, e⟩ := r0
        simp only at he
        subst he; rfl
      · rw [if_pos rfl, if_pos rfl]
        by_cases he1 : r1.2 = 0
        · rw [if_neg (by simp [he1]), if_neg (by simp [he1])]; rfl
        · rw [if_pos he1, if_pos he1]
    · rw [if_pos he, if_pos he]
structure PrOk (m : Mb) : Prop where
  u : m.ua = true ∨ m.ub = true
  f : ∀ d, us m d = true → m.fp = true → (s1 m d = 0 ∨ s1 m d = 1) ∧ (s2 m d = 0 ∨ s2 m d = 1) ∧ vrg (v1 m d) (v2 m d) = true ∧ vrg (v3 m d) (v4 m d) = true
theorem prdG_S (f : Fm) (mx my vx vy : Int) : prdG f (16 * min (max mx (-1)) 128) (16 * min (max my (-1)) 128) 16 vx vy = prdS f mx my vx vy := by
  unfold prdG prdS
  by_cases hf : fmd f = true
  · have hb : f.w ≤ 64 ∧ f.h ≤ 64 := by
      unfold fmd at hf
      rw [Bool.and_eq_true] at hf
      have := fsz_of hf.1
      omega
    by_cases hc : 0 ≤ mx ∧ 16 * mx + 16 ≤ f.w ∧ 0 ≤ my ∧ 16 * my + 16 ≤ f.h
    · have e1 : min (max mx (-1)) 128 = mx := by omega
      have e2 : min (max my (-1)) 128 = my := by omega
      have h1 : pinB f (16 * mx) (16 * my) ((16 : Nat) : Int) = true := by
        simp only [pinB, Bool.and_eq_true, decide_eq_true_eq]; omega
      have h2 : (fmd f && (decide (0 ≤ mx) && (decide (16 * mx + 16 ≤ f.w) && (decide (0 ≤ my) && decide (16 * my + 16 ≤ f.h))))) = true := by
        simp only [hf, Bool.true_and, Bool.and_eq_true, decide_eq_true_eq]; exact hc
      rw [e1, e2, if_pos h2, hf, h1, if_pos (by rfl)]
    · have h1 : pinB f (16 * min (max mx (-1)) 128) (16 * min (max my (-1)) 128) ((16 : Nat) : Int) = false := by
        rw [Bool.eq_false_iff]
        intro h
        simp only [pinB, Bool.and_eq_true, decide_eq_true_eq] at h
        obtain ⟨q1, q2, q3, q4, q5, q6⟩ := h
        have hx : min (max mx (-1)) 128 = mx ∨ min (max mx (-1)) 128 = -1 ∨ min (max mx (-1)) 128 = 128 := by omega
        have hy : min (max my (-1)) 128 = my ∨ min (max my (-1)) 128 = -1 ∨ min (max my (-1)) 128 = 128 := by omega
        apply hc
        generalize min (max mx (-1)) 128 = X at *
        generalize min (max my (-1)) 128 = Y at *
        rcases hx with rfl | rfl | rfl <;> rcases hy with rfl | rfl | rfl <;> omega
      have h2 : ¬ (fmd f && (decide (0 ≤ mx) && (decide (16 * mx + 16 ≤ f.w) && (decide (0 ≤ my) && decide (16 * my + 16 ≤ f.h))))) = true := by
        simp only [Bool.and_eq_true, decide_eq_true_eq]; omega
      rw [h1, Bool.and_false, if_neg (by simp), if_neg h2]
  · have hf' : fmd f = false := by simpa using hf
    rw [hf', Bool.false_and, Bool.false_and]
    rfl
theorem flat5 (l : List Fm) : (l.flatMap fmc).length = l.length * 5 := flat_len fmc 5 l fun x _ => rfl

set_option maxHeartbeats 6400000 in
set_option maxRecDepth 100000 in
theorem predictM_ok (c : Cx) (m : Mb) (i : Nat) (pa fu fi : Fm) (mx my : Int) (H : Heap) (hi : H[i]? = some (mB m)) (hml : m.lv.length = 384) (hp : PrOk m) :
    CallOk Tryz.prog 82 [.agg (cxc c), .ptr i 0 0, .agg (fmc pa ++ (fmc fu ++ fmc fi)), .int .i64 mx, .int .i64 my] H (.tup [.agg (fmc (prS c m pa fu fi mx my).1), .int .i64 (prS c m pa fu fi mx my).2]) H := by
  have hil := (List.getElem?_eq_some_iff.1 hi).1
  have hx := fun K => get_ext (K := K) hi
  have e4 := mbc_lenA m hml
  have eu : List.take 2 (List.drop 1 (mbc m)) = [.bool m.ua, .bool m.ub] := rfl
  have efp : (mbc m)[3]? = some (.bool m.fp) := rfl
  have es : ∀ d, d < 2 → (mbc m)[13 + d * 2]? = some (.int .i64 (s1 m d)) := fun d hd => by
    have : d = 0 ∨ d = 1 := by omega
    rcases this with rfl | rfl <;> rfl
  have ess : ∀ d, d < 2 → List.take 2 (List.drop (13 + d * 2) (mbc m)) = [.int .i64 (s1 m d), .int .i64 (s2 m d)] := fun d hd => by
    have : d = 0 ∨ d = 1 := by omega
    rcases this with rfl | rfl <;> rfl
  have ev4 : ∀ d, d < 2 → List.take 4 (List.drop (5 + d * 4) (mbc m)) = [.int .i64 (v1 m d), .int .i64 (v2 m d), .int .i64 (v3 m d), .int .i64 (v4 m d)] := fun d hd => by
    have : d = 0 ∨ d = 1 := by omega
    rcases this with rfl | rfl <;> rfl
  have ev2 : ∀ d, d < 2 → List.take 2 (List.drop (5 + d * 4) (mbc m)) = [.int .i64 (v1 m d), .int .i64 (v2 m d)] := fun d hd => by
    have : d = 0 ∨ d = 1 := by omega
    rcases this with rfl | rfl <;> rfl
  have cl : (cxc c).length = 4 := rfl
  have cc : (cxc c).all PV.cell = true := rfl
  have ct4 : List.take 4 (cxc c) = cxc c := rfl
  have rl : (fmc pa ++ (fmc fu ++ fmc fi)).length = 15 := rfl
  have rc : (fmc pa ++ (fmc fu ++ fmc fi)).all PV.cell = true := rfl
  have rt : List.take 15 (fmc pa ++ (fmc fu ++ fmc fi)) = fmc pa ++ (fmc fu ++ fmc fi) := rfl
  have hgo := goP_prS c m pa fu fi mx my hp.u
  generalize prS c m pa fu fi mx my = r at hgo ⊢
  refine CallOk.body (F0 := [(0, .agg (cxc c)), (1, .ptr i 0 0), (2, .agg (fmc pa ++ (fmc fu ++ fmc fi))), (3, .int .i64 mx), (4, .int .i64 my)]) Tryz.func82 rfl Tryz.ntmps82 Tryz.results82 rfl (by kernel_rfl) rfl ?_
  (repeat refine PW.seq ?_); refine PW.rg rfl fun K hK => ?_; simp (maxSteps := 3000000) (disch := omega) only [go_sem, ↓reduceIte, reduceCtorEq, pappend, plen, cc, rc]; refine hK _ _ ?_; clear hK K
  (repeat refine PW.seq ?_); refine PW.rg rfl fun K hK => ?_; simp (maxSteps := 3000000) (disch := omega) only [go_sem, ↓reduceIte, reduceCtorEq, pappend, plen]; refine hK _ _ ?_; clear hK K
  (repeat refine PW.seq ?_); refine PW.rg rfl fun K hK => ?_; simp (maxSteps := 3000000) (disch := omega) only [go_sem, ↓reduceIte, reduceCtorEq, pappend, plen, hi, hx, mB, eu, e4]; refine hK _ _ ?_; clear hK K
  (repeat refine PW.seq ?_)
  refine PW.view (Vs.ghost 12 53 5 rfl) ?_
  (repeat refine PW.seq ?_); refine PW.block (PW.loop ?_)
  suffices hloop : ∀ (n d : Nat) (l : List Fm), d + n = 2 → (∀ g ∈ l, F16 g) → l.length = cntD m d → goP c m pa fu fi mx my n l = r → PL Tryz.prog _ _ [(1, .ptr i 0 0), (3, .int .i64 mx), (4, .int .i64 my), (5, .ptr H.length 0 0), (7, .ptr (H.length + 1) 0 0), (10, .ptr (H.length + 2) 0 0), (12, .msl (H.length + 3) (l.length * 5) 0 l.length 5 true), (21, .agg [.bool m.ua, .bool m.ub]), (22, .int .i64 (d : Int))] (H ++ [⟨104, 0, cxc c⟩, ⟨55, 0, fmc pa ++ (fmc fu ++ fmc fi)⟩, ⟨53, 0, [.int .i64 0, .int .i64 0, .slice [] 0 true, .slice [] 0 true, .slice [] 0 true]⟩, ⟨53, l.length * 5, l.flatMap fmc⟩]) _ by
    exact PL.at [1, 3, 4, 5, 7, 10, 12, 21, 22] (hloop 2 0 [] rfl (fun g hg => by cases hg) rfl hgo) (by simp [kp, slot, Nat.beq]) (by simp)
  intro n
  induction n with
  | zero =>
    intro d l hd hl hlen hr
    have hd2 : d = 2 := by omega
    subst hd2
    have hr1 : r = (fin2 l, 0) := hr.symm
    subst hr1
    refine PL.round ?_; (repeat refine PW.seq ?_); refine PW.rg rfl fun K hK => ?_; simp (maxSteps := 3000000) (disch := omega) only [go_sem, ↓reduceIte, reduceCtorEq, pappend, plen]; refine hK _ _ ?_; clear hK K; (repeat refine PW.seq ?_); refine PW.cond (t := _) rfl (fun h => ?_) (fun h => ?_)
    · cases h
    refine PW.exit ?_
    have hn : l.length = 1 ∨ l.length = 2 := by
      have e2 : cntD m 2 = (if m.ua = true then 1 else 0) + (if m.ub = true then 1 else 0) := by simp [cntD]
      rw [hlen, e2]
      rcases hp.u with e | e <;> rw [e]
      · cases m.ub <;> simp
      · cases m.ua <;> simp
    rcases hn with h1 | h1
    · obtain ⟨a, rfl⟩ : ∃ a, l = [a] := by
        match l, h1 with
        | [a], _ => exact ⟨a, rfl⟩
      have ga := (hl a (by simp)).c
      have gt : List.take 5 ([a].flatMap fmc) = fmc a := rfl
      have gl : ([a].flatMap fmc).length = 5 := rfl
      have g5 : (fmc a).all PV.cell = true := rfl
      have g7 : (fmc a).length = 5 := rfl
      have g8 : List.take 5 (fmc a) = fmc a := rfl
      have g9 : List.drop 5 [PV.int .i64 0, PV.int .i64 0, PV.slice [] 0 true, PV.slice [] 0 true, PV.slice [] 0 true] = [] := rfl
      (repeat refine PW.seq ?_); refine PW.rg rfl fun K hK => ?_; simp (maxSteps := 3000000) (disch := omega) only [go_sem, ↓reduceIte, reduceCtorEq, pappend, plen]; refine hK _ _ ?_; clear hK K
      (repeat refine PW.seq ?_); refine PW.cond (t := _) rfl (fun h => ?_) (fun h => ?_)
      rotate_left
      · cases h
      (repeat refine PW.seq ?_); refine PW.rg rfl fun K hK => ?_; simp (maxSteps := 3000000) (disch := omega) only [go_sem, ↓reduceIte, reduceCtorEq, pappend, plen, gt, gl, g5, g7, g8, g9]; refine hK _ _ ?_; clear hK K
      refine PW.ret ⟨.tup [.agg (fmc a), .int .i64 0], by simp (maxSteps := 3000000) (disch := omega) only [go_sem, ↓reduceIte, reduceCtorEq, pappend, plen, presults, presult, List.mapM_cons, List.mapM_nil, Option.pure_def, Option.bind_eq_bind, Option.bind_some, Array.toList, g7, g8], ?_⟩
      exact Fin.base (.id (fe_scoped _ _ _ _ _ _ _ _ _ _))
    · obtain ⟨a, b, rfl⟩ : ∃ a b, l = [a, b] := by
        match l, h1 with
        | [a, b], _ => exact ⟨a, b, rfl⟩
      have av := fun L => average_ok a b (hl a (by simp)) (hl b (by simp)) L
      have gt : List.take 5 ([a, b].flatMap fmc) = fmc a := rfl
      have gt2 : List.take 5 (List.drop 5 ([a, b].flatMap fmc)) = fmc b := rfl
      have gl : ([a, b].flatMap fmc).length = 10 := rfl
      obtain ⟨g, hg⟩ : ∃ g, mnF a b = g := ⟨_, rfl⟩
      rw [hg] at av
      have hfg : fin2 [a, b] = g := hg
      rw [hfg]
      have g5 : (fmc g).all PV.cell = true := rfl
      have g7 : (fmc g).length = 5 := rfl
      have g8 : List.take 5 (fmc g) = fmc g := rfl
      have g9 : List.drop 5 [PV.int .i64 0, PV.int .i64 0, PV.slice [] 0 true, PV.slice [] 0 true, PV.slice [] 0 true] = [] := rfl
      (repeat refine PW.seq ?_); refine PW.rg rfl fun K hK => ?_; simp (maxSteps := 3000000) (disch := omega) only [go_sem, ↓reduceIte, reduceCtorEq, pappend, plen]; refine hK _ _ ?_; clear hK K
      (repeat refine PW.seq ?_); refine PW.cond (t := _) rfl (fun h => ?_) (fun h => ?_)
      · cases h
      refine PW.skip ?_
      (repeat refine PW.seq ?_); refine PW.drawi [H.length + 2] [(10, [0])] [] [106] mix (by kernel_rfl) (by simp <;> omega) fun K hK => ?_
      simp (maxSteps := 3000000) (disch := omega) only [go_sem, ↓reduceIte, reduceCtorEq, pappend, plen, arith, gt, gt2, gl]
      refine VCj.read (fun _ _ => av _) rfl ?_
      simp (maxSteps := 3000000) (disch := omega) only [go_sem, ↓reduceIte, reduceCtorEq, pappend, plen, g5, g7, g8, g9]
      refine hK _ _ ?_; clear hK K
      refine PW.ret ⟨.tup [.agg (fmc g), .int .i64 0], by simp (maxSteps := 3000000) (disch := omega) only [go_sem, ↓reduceIte, reduceCtorEq, pappend, plen, presults, presult, List.mapM_cons, List.mapM_nil, Option.pure_def, Option.bind_eq_bind, Option.bind_some, Array.toList, g7, g8], ?_⟩
      exact Fin.base (.id (fe_scoped _ _ _ _ _ _ _ _ _ _))
  | succ n ih =>
    intro d l hd hl hlen hr
    have hd2 : d < 2 := by omega
    have hdn : 1 - n = d := by omega
    rw [goP, hdn] at hr
    have ct : decide ((d : Int) < 2) = true := decide_eq_true (by omega)
    have eus : [PV.bool m.ua, PV.bool m.ub][d]? = some (.bool (us m d)) := by
      have : d = 0 ∨ d = 1 := by omega
      rcases this with rfl | rfl <;> rfl
    have hcn : cntD m (d + 1) = cntD m d + if us m d = true then 1 else 0 := by
      have : d = 0 ∨ d = 1 := by omega
      rcases this with rfl | rfl <;> simp [cntD, us]
    refine PL.round ?_; (repeat refine PW.seq ?_); refine PW.rg rfl fun K hK => ?_; simp (maxSteps := 3000000) (disch := omega) only [go_sem, ↓reduceIte, reduceCtorEq, pappend, plen, ct]; refine hK _ _ ?_; clear hK K; (repeat refine PW.seq ?_); refine PW.cond (t := _) rfl (fun h => ?_) (fun h => ?_)
    rotate_left
    · cases h
    refine PW.skip ?_; (repeat refine PW.seq ?_); refine PW.block ?_
    (repeat refine PW.seq ?_); refine PW.rg rfl fun K hK => ?_; simp (maxSteps := 3000000) (disch := omega) only [go_sem, ↓reduceIte, reduceCtorEq, pappend, plen, eus]; refine hK _ _ ?_; clear hK K
    (repeat refine PW.seq ?_); refine PW.rg rfl fun K hK => ?_; simp (maxSteps := 3000000) (disch := omega) only [go_sem, ↓reduceIte, reduceCtorEq, pappend, plen]; refine hK _ _ ?_; clear hK K
    (repeat refine PW.seq ?_); refine PW.cond (t := _) rfl (fun h => ?_) (fun h => ?_)
    · have hu : us m d = false := by simpa using h
      rw [hu, if_neg (by simp)] at hr
      rw [hu, if_neg (by simp)] at hcn
      refine PW.exit ?_
      (repeat refine PW.seq ?_); refine PW.rg rfl fun K hK => ?_; simp (maxSteps := 3000000) (disch := omega) only [go_sem, ↓reduceIte, reduceCtorEq, pappend, plen]; refine hK _ _ ?_; clear hK K
      exact PL.at [1, 3, 4, 5, 7, 10, 12, 21, 22] (ih (d + 1) l (by omega) hl (by omega) hr) rfl rfl
    have hu : us m d = true := by simpa using h
    rw [hu, if_pos rfl] at hr hcn
    have hpf := hp.f d hu
    have h1 := es d hd2
    have h2 := ess d hd2
    have h3 := ev4 d hd2
    have h4 := ev2 d hd2
    have hD : dirD c m pa fu fi d mx my = dirP c m.fp (v1 m d) (v2 m d) (v3 m d) (v4 m d) (s1 m d) (s2 m d) pa fu fi (d : Int) mx my := rfl
    have h16 : (dirD c m pa fu fi d mx my).2 = 0 → F16 (dirD c m pa fu fi d mx my).1 := dirP_16
    unfold dirP at hD
    have rf := fun L => reference_ok c pa fu fi (d : Int) (s1 m d) L
    generalize dirD c m pa fu fi d mx my = R at hD hr h16
    generalize refS c pa fu fi (d : Int) (s1 m d) = T at rf hD
    obtain ⟨g, e⟩ := T
    simp only at rf hD
    refine PW.skip ?_
    have g5 : (fmc g).all PV.cell = true := rfl
    have g7 : (fmc g).length = 5 := rfl
    have g8 : List.take 5 (fmc g) = fmc g := rfl
    refine PW.view (Vs.place 53) ?_
    (repeat refine PW.seq ?_); refine PW.drawi [H.length + 4] [(15, [0])] [(15, 0)] [39] mix (by kernel_rfl) (by simp <;> omega) fun K hK => ?_
    simp (maxSteps := 3000000) (disch := omega) only [go_sem, ↓reduceIte, reduceCtorEq, pappend, plen, arith, hi, hx, mB, e4, h1, cl, ct4, rl, rt]
    refine VCj.read (fun _ _ => rf _) rfl ?_
    simp (maxSteps := 3000000) (disch := omega) only [go_sem, ↓reduceIte, reduceCtorEq, pappend, plen, g5, g7]
    refine hK _ _ ?_; clear hK K
    (repeat refine PW.seq ?_); refine PW.rg rfl fun K hK => ?_; simp (maxSteps := 3000000) (disch := omega) only [go_sem, ↓reduceIte, reduceCtorEq, pappend, plen]; refine hK _ _ ?_; clear hK K
    (repeat refine PW.seq ?_); refine PW.cond (t := _) rfl (fun h => ?_) (fun h => ?_)
    · have he : e ≠ 0 := by simpa using h
      rw [if_pos he] at hD
      subst hD
      rw [if_pos (by exact he)] at hr
      (repeat refine PW.seq ?_); refine PW.rg rfl fun K hK => ?_; simp (maxSteps := 3000000) (disch := omega) only [go_sem, ↓reduceIte, reduceCtorEq, pappend, plen]; refine hK _ _ ?_; clear hK K
      refine PW.ret ⟨.tup [.agg [.int .i64 0, .int .i64 0, .slice [] 0 true, .slice [] 0 true, .slice [] 0 true], .int .i64 e], by simp (maxSteps := 3000000) (disch := omega) only [go_sem, ↓reduceIte, reduceCtorEq, pappend, plen, presults, presult, List.mapM_cons, List.mapM_nil, Option.pure_def, Option.bind_eq_bind, Option.bind_some, Array.toList], ?_⟩
      rw [← hr]
      exact Fin.base (fz0 _ _ _)
    have he : e = 0 := by simpa using h
    rw [if_neg (by simp [he])] at hD
    refine PW.skip ?_
    (repeat refine PW.seq ?_); refine PW.rg rfl fun K hK => ?_; simp (maxSteps := 3000000) (disch := omega) only [go_sem, ↓reduceIte, reduceCtorEq, pappend, plen]; refine hK _ _ ?_; clear hK K
    (repeat refine PW.seq ?_); refine PW.rg rfl fun K hK => ?_; simp (maxSteps := 3000000) (disch := omega) only [go_sem, ↓reduceIte, reduceCtorEq, pappend, plen, hi, hx, mB, e4, efp]; refine hK _ _ ?_; clear hK K
    suffices hrest : PW Tryz.prog _ _ [(1, .ptr i 0 0), (3, .int .i64 mx), (4, .int .i64 my), (5, .ptr H.length 0 0), (7, .ptr (H.length + 1) 0 0), (10, .ptr (H.length + 2) 0 0), (12, .msl (H.length + 3) (l.length * 5) 0 l.length 5 true), (16, .int .i64 R.2), (17, .ptr (H.length + 5) 0 0), (21, .agg [.bool m.ua, .bool m.ub]), (22, .int .i64 (d : Int))] (H ++ [⟨104, 0, cxc c⟩, ⟨55, 0, fmc pa ++ (fmc fu ++ fmc fi)⟩, ⟨53, 0, [.int .i64 0, .int .i64 0, .slice [] 0 true, .slice [] 0 true, .slice [] 0 true]⟩, ⟨53, l.length * 5, l.flatMap fmc⟩, ⟨53, 1, fmc g⟩, ⟨53, 0, fmc R.1⟩]) _ by
      (repeat refine PW.seq ?_); refine PW.cond (t := _) rfl (fun h => ?_) (fun h => ?_)
      · have hf : m.fp = true := h
        rw [hf, if_pos rfl] at hD
        obtain ⟨k1, k2, k3, k4⟩ := hpf hf
        have fl := fun L => fields_ok g mx my (v1 m d) (v2 m d) (v3 m d) (v4 m d) (s1 m d) (s2 m d) k1 k2 k3 k4 L
        rw [← hD] at fl
        have r5 : (fmc R.1).all PV.cell = true := rfl
        have r7 : (fmc R.1).length = 5 := rfl
        have r9 : List.drop 5 [PV.int .i64 0, PV.int .i64 0, PV.slice [] 0 true, PV.slice [] 0 true, PV.slice [] 0 true] = [] := rfl
        (repeat refine PW.seq ?_); refine PW.drawi [H.length + 5] [(17, [0])] [] [66] mix (by kernel_rfl) (by simp <;> omega) fun K hK => ?_
        simp (maxSteps := 3000000) (disch := omega) only [go_sem, ↓reduceIte, reduceCtorEq, pappend, plen, arith, hi, hx, mB, e4, h2, h3, g7, g8]
        refine VCj.read (fun _ _ => fl _) rfl ?_
        simp (maxSteps := 3000000) (disch := omega) only [go_sem, ↓reduceIte, reduceCtorEq, pappend, plen, r5, r7, r9]
        refine hK _ _ ?_; clear hK K
        exact PW.at [1, 3, 4, 5, 7, 10, 12, 16, 17, 21, 22] hrest rfl rfl
      · have hf : m.fp = false := h
        rw [hf, if_neg (by simp), ← prdG_S] at hD
        have sx := fun L => sample_ok mx L
        have sy := fun L => sample_ok my L
        have pr := fun L => predictF_ok g (16 * min (max mx (-1)) 128) (16 * min (max my (-1)) 128) (v1 m d) (v2 m d) 16 (.inr rfl) (by omega) L
        rw [← hD] at pr
        have r5 : (fmc R.1).all PV.cell = true := rfl
        have r7 : (fmc R.1).length = 5 := rfl
        have r9 : List.drop 5 [PV.int .i64 0, PV.int .i64 0, PV.slice [] 0 true, PV.slice [] 0 true, PV.slice [] 0 true] = [] := rfl
        (repeat refine PW.seq ?_); refine PW.drawi [H.length + 5] [(17, [0])] [] [72, 74, 82] mix (by kernel_rfl) (by simp <;> omega) fun K hK => ?_
        simp (maxSteps := 3000000) (disch := omega) only [go_sem, ↓reduceIte, reduceCtorEq, pappend, plen, arith, hi, hx, mB, e4, h4, g7, g8]
        refine VCj.read (fun _ _ => sx _) rfl ?_
        simp (maxSteps := 3000000) (disch := omega) only [go_sem, ↓reduceIte, reduceCtorEq, pappend, plen]
        refine VCj.read (fun _ _ => sy _) rfl ?_
        simp (maxSteps := 3000000) (disch := omega) only [go_sem, ↓reduceIte, reduceCtorEq, pappend, plen, arith, hi, hx, mB, e4, h4, g7, g8]
        refine VCj.read (fun _ _ => pr _) rfl ?_
        simp (maxSteps := 3000000) (disch := omega) only [go_sem, ↓reduceIte, reduceCtorEq, pappend, plen, r5, r7, r9]
        refine hK _ _ ?_; clear hK K
        exact PW.at [1, 3, 4, 5, 7, 10, 12, 16, 17, 21, 22] hrest rfl rfl
    (repeat refine PW.seq ?_); refine PW.rg rfl fun K hK => ?_; simp (maxSteps := 3000000) (disch := omega) only [go_sem, ↓reduceIte, reduceCtorEq, pappend, plen]; refine hK _ _ ?_; clear hK K
    (repeat refine PW.seq ?_); refine PW.cond (t := _) rfl (fun h => ?_) (fun h => ?_)
    · have he2 : R.2 ≠ 0 := by simpa using h
      rw [if_pos he2] at hr
      (repeat refine PW.seq ?_); refine PW.rg rfl fun K hK => ?_; simp (maxSteps := 3000000) (disch := omega) only [go_sem, ↓reduceIte, reduceCtorEq, pappend, plen]; refine hK _ _ ?_; clear hK K
      refine PW.ret ⟨.tup [.agg [.int .i64 0, .int .i64 0, .slice [] 0 true, .slice [] 0 true, .slice [] 0 true], .int .i64 R.2], by simp (maxSteps := 3000000) (disch := omega) only [go_sem, ↓reduceIte, reduceCtorEq, pappend, plen, presults, presult, List.mapM_cons, List.mapM_nil, Option.pure_def, Option.bind_eq_bind, Option.bind_some, Array.toList], ?_⟩
      rw [← hr]
      exact Fin.base (fz0 _ _ _)
    have he2 : R.2 = 0 := by simpa using h
    rw [if_neg (by simp [he2])] at hr
    have hR := h16 he2
    have nx := ih (d + 1) (l ++ [R.1]) (by omega) (fun g hg => by
      rcases List.mem_append.1 hg with hg | hg
      · exact hl g hg
      · rw [List.mem_singleton] at hg; rw [hg]; exact hR) (by rw [List.length_append]; simp only [List.length_cons, List.length_nil]; omega) hr
    have r7 : (fmc R.1).length = 5 := rfl
    have r8 : List.take 5 (fmc R.1) = fmc R.1 := rfl
    have r5 : (fmc R.1).all PV.cell = true := rfl
    have lf := flat5 l
    have lb : l.length ≤ 2 := by rw [hlen]; unfold cntD; split <;> split <;> omega
    have fa : (l ++ [R.1]).flatMap fmc = l.flatMap fmc ++ fmc R.1 := by simp
    have ll1 : (l ++ [R.1]).length = l.length + 1 := by simp
    have lp : (l.flatMap fmc ++ fmc R.1).length = (l.length + 1) * 5 := by rw [List.length_append, lf, r7]; omega
    rw [fa, ll1] at nx
    refine PW.skip ?_
    (repeat refine PW.seq ?_); refine PW.rg rfl fun K hK => ?_; simp (maxSteps := 3000000) (disch := omega) only [go_sem, ↓reduceIte, reduceCtorEq, pappend, plen, r5, r7, r8, lf]; refine hK _ _ ?_; clear hK K
    (repeat refine PW.seq ?_); refine PW.rg rfl fun K hK => ?_; simp (maxSteps := 3000000) (disch := omega) only [go_sem, ↓reduceIte, reduceCtorEq, pappend, plen]; refine hK _ _ ?_; clear hK K
    rw [lp]
    refine PL.view (Vs.trim (F1 := [(1, .ptr i 0 0), (3, .int .i64 mx), (4, .int .i64 my), (5, .ptr H.length 0 0), (7, .ptr (H.length + 1) 0 0), (10, .ptr (H.length + 2) 0 0), (12, .msl (H.length + 3) ((l.length + 1) * 5) 0 (l.length + 1) 5 true), (21, .agg [.bool m.ua, .bool m.ub]), (22, .int .i64 ((d + 1 : Nat) : Int))]) (H1 := H ++ [⟨104, 0, cxc c⟩, ⟨55, 0, fmc pa ++ (fmc fu ++ fmc fi)⟩, ⟨53, 0, [.int .i64 0, .int .i64 0, .slice [] 0 true, .slice [] 0 true, .slice [] 0 true]⟩, ⟨53, (l.length + 1) * 5, l.flatMap fmc ++ fmc R.1⟩]) (hscW ?_) (by simp) (List.append_assoc _ [_, _, _, _] [_, _]).symm ?_) nx
    · intro b hb z hz
      simp only [List.mem_cons, List.not_mem_nil, or_false] at hb
      rcases hb with rfl | rfl | rfl | rfl
      · simp only [cxc, List.mem_cons, List.not_mem_nil, or_false] at hz
        rcases hz with rfl | rfl | rfl | rfl
        · exact .int _ _
        · exact .int _ _
        · exact .bool _
        · exact .bool _
      · rcases List.mem_append.1 hz with hz | hz
        · exact fr_sc _ _ _ _ _ _ _ _ _ _ _ _ z hz
        · rcases List.mem_append.1 hz with hz | hz
          · exact fr_sc _ _ _ _ _ _ _ _ _ _ _ _ z hz
          · exact fr_sc _ _ _ _ _ _ _ _ _ _ _ _ z hz
      · exact fr_sc _ 0 0 [] [] [] _ _ _ _ _ _ z hz
      · rcases List.mem_append.1 hz with hz | hz
        · obtain ⟨g, _, hg⟩ := List.mem_flatMap.1 hz
          exact fr_sc _ _ _ _ _ _ _ _ _ _ _ _ z hg
        · exact fr_sc _ _ _ _ _ _ _ _ _ _ _ _ z hz
    · rw [hl4]
      exact ⟨.id (.ptr (by omega)), .id (.int _ _), .id (.int _ _), .id (.ptr (by omega)), .id (.ptr (by omega)), .id (.ptr (by omega)), .id (.msl (by omega)), .id (ag_scoped fun x hx => by
        simp only [List.mem_cons, List.not_mem_nil, or_false] at hx
        rcases hx with rfl | rfl <;> exact .bool _), .id (.int _ _), trivial⟩

end Go.Proofs.YtahomnplappbpaaGreatDoor.Sc
