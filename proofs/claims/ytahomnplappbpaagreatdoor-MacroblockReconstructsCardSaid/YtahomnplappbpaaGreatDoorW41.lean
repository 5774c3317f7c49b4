/-
  Parts of the proof, put together in one text. No condition.
-/
import Derived.Test.YtahomnplappbpaaGreatDoorW40
import Derived.Test.YtahomnplappbpaaGreatDoorW37
namespace Go.Proofs.YtahomnplappbpaaGreatDoor.Sc
set_option linter.all false
set_option linter.unusedVariables false
set_option linter.unusedSimpArgs false
open Pm Ty Go.RowKit

/-- 16 times a number, or what is refused. -/
def t16 (n : Int) : Int := if n < 0 ∨ n > 1000 then -1 else 16 * n
theorem t16_ref (n : Int) (H : Heap) : CallOk Tryz.prog 91 [.int .i64 n] H (.int .i64 (t16 n)) H := by
  unfold t16
  refine CallOk.body (F0 := [(0, .int .i64 n)]) Tryz.func91 rfl Tryz.ntmps91 Tryz.results91 rfl (by kernel_rfl) rfl ?_
  (repeat' (first | refine PW.seq ?_ | refine PW.skip ?_ | refine PW.block ?_ | (refine PW.rg rfl fun K hK => ?_; simp (maxSteps := 3000000) (disch := omega) only [go_sem, ↓reduceIte, reduceCtorEq, pappend, plen]) | (refine PW.draw mix (by kernel_rfl) fun K hK => ?_; simp (maxSteps := 3000000) (disch := omega) only [go_sem, ↓reduceIte, reduceCtorEq, pappend, plen]) | (refine PW.drawg mix (by kernel_rfl) fun K hK => ?_; simp (maxSteps := 3000000) (disch := omega) only [go_sem, ↓reduceIte, reduceCtorEq, pappend, plen]) | (refine PW.drawt [] [] mix (by kernel_rfl) fun K hK => ?_; simp (maxSteps := 3000000) (disch := omega) only [go_sem, ↓reduceIte, reduceCtorEq, pappend, plen]) | ((first | refine VO_cond ?_ ?_ | refine VOd_cond ?_ ?_ | refine VOg_cond ?_ ?_ | refine VOh_cond ?_ ?_ | refine VOi_cond ?_ ?_ | refine And.intro ?_ ?_) <;> intro h <;> (try simp only [Bool.not_eq_true', Bool.not_eq_false', decide_eq_true_eq, decide_eq_false_iff_not] at h) <;> simp (maxSteps := 3000000) (disch := omega) only [go_sem, ↓reduceIte, reduceCtorEq, pappend, plen, h]) | (refine hK _ _ ?_; clear hK K) | (refine PW.cond (t := _) rfl (fun h => ?_) (fun h => ?_) <;> (try (cases h; done)) <;> (try simp only [Bool.not_eq_true', Bool.not_eq_false', decide_eq_true_eq, decide_eq_false_iff_not] at h))))
  all_goals ((refine PW.ret ⟨_, rfl, ?_⟩; first | refine .inl ⟨?_, rfl⟩ | refine Fin.base (.id' ?_ (.bool _)) | refine Fin.base (.id' ?_ (.int _ _))); (simp_all [slot, Nat.beq] <;> first | rfl | omega | (rw [Bool.eq_iff_iff]; simp; done) | (rw [Bool.eq_iff_iff]; simp; omega)))
theorem prdG_T (f : Fm) (mx my vx vy : Int) : prdG f (t16 mx) (t16 my) 16 vx vy = prdS f mx my vx vy := by
  unfold prdG prdS
  by_cases hf : fmd f = true
  · have hb : f.w ≤ 64 ∧ f.h ≤ 64 := by
      unfold fmd at hf
      rw [Bool.and_eq_true] at hf
      have := fsz_of hf.1
      omega
    by_cases hc : 0 ≤ mx ∧ 16 * mx + 16 ≤ f.w ∧ 0 ≤ my ∧ 16 * my + 16 ≤ f.h
    · have e1 : t16 mx = 16 * mx := if_neg (by omega)
      have e2 : t16 my = 16 * my := if_neg (by omega)
      have h1 : pinB f (16 * mx) (16 * my) ((16 : Nat) : Int) = true := by
        simp only [pinB, Bool.and_eq_true, decide_eq_true_eq]; omega
      have h2 : (fmd f && (decide (0 ≤ mx) && (decide (16 * mx + 16 ≤ f.w) && (decide (0 ≤ my) && decide (16 * my + 16 ≤ f.h))))) = true := by
        simp only [hf, Bool.true_and, Bool.and_eq_true, decide_eq_true_eq]; exact hc
      rw [e1, e2, if_pos h2, hf, h1, if_pos (by rfl)]
    · have h1 : pinB f (t16 mx) (t16 my) ((16 : Nat) : Int) = false := by
        rw [Bool.eq_false_iff]
        intro h
        simp only [pinB, Bool.and_eq_true, decide_eq_true_eq] at h
        obtain ⟨q1, q2, q3, q4, q5, q6⟩ := h
        have hx : t16 mx = 16 * mx ∨ t16 mx = -1 := by unfold t16; split <;> simp
        have hy : t16 my = 16 * my ∨ t16 my = -1 := by unfold t16; split <;> simp
        apply hc
        rcases hx with e | e <;> rcases hy with e' | e' <;> omega
      have h2 : ¬ (fmd f && (decide (0 ≤ mx) && (decide (16 * mx + 16 ≤ f.w) && (decide (0 ≤ my) && decide (16 * my + 16 ≤ f.h))))) = true := by
        simp only [Bool.and_eq_true, decide_eq_true_eq]; omega
      rw [h1, Bool.and_false, if_neg (by simp), if_neg h2]
  · have hf' : fmd f = false := by simpa using hf
    rw [hf', Bool.false_and, Bool.false_and]
    rfl
theorem t16_bd (n : Int) : -1 ≤ t16 n ∧ t16 n ≤ 16000 := by unfold t16; split <;> omega

/-- The macroblock that is predicted. -/
def mbP (c : Cx) (m : Mb) : Mb := if m.k = 0 then stl c else m
theorem zmb_f {m : Mb} (h : zmb m = true) (c : Cx) (d : Nat) : m.fp = (stl c).fp ∧ v1 m d = v1 (stl c) d ∧ v2 m d = v2 (stl c) d ∧ m.fp = false := by
  unfold zmb zA at h
  obtain ⟨k, ua, ub, fp, fd, va, vb, vc, vd, ve, vf, vg, vh, sa, sb, sc, sd, dl, ca, cb, cc, cd, ce, cf, lv⟩ := m
  simp only [Bool.and_eq_true, beq_iff_eq] at h
  unfold v1 v2 stl
  dsimp only
  simp_all

set_option maxHeartbeats 6400000 in
set_option maxRecDepth 100000 in
theorem predicted_ref (c : Cx) (m : Mb) (pa fu fi : Fm) (d : Nat) (hd : d < 2) (mx my : Int) (hml : m.lv.length = 384) (hf : fmS c m = true) (hu : us (mbP c m) d = true) (hk1 : m.k ≠ 1) (H : Heap) :
    CallOk Tryz.prog 36 [.agg (cxc c), .agg (fmc pa ++ (fmc fu ++ fmc fi)), .agg (mbc m), .int .i64 (d : Int), .int .i64 mx, .int .i64 my] H (.tup [.agg (fmc (dirD c (mbP c m) pa fu fi d mx my).1), .int .i64 (dirD c (mbP c m) pa fu fi d mx my).2]) H := by
  have e4 := mbc_lenA m hml
  have m2 := mbc_cellA m
  have m3 : (mbc m)[0]? = some (.int .i64 m.k) := rfl
  have efp : (mbc m)[3]? = some (.bool m.fp) := rfl
  have es : (mbc m)[13 + d * 2]? = some (.int .i64 (s1 m d)) := by
    have : d = 0 ∨ d = 1 := by omega
    rcases this with rfl | rfl <;> rfl
  have ess : List.take 2 (List.drop (13 + d * 2) (mbc m)) = [.int .i64 (s1 m d), .int .i64 (s2 m d)] := by
    have : d = 0 ∨ d = 1 := by omega
    rcases this with rfl | rfl <;> rfl
  have ev4 : List.take 4 (List.drop (5 + d * 4) (mbc m)) = [.int .i64 (v1 m d), .int .i64 (v2 m d), .int .i64 (v3 m d), .int .i64 (v4 m d)] := by
    have : d = 0 ∨ d = 1 := by omega
    rcases this with rfl | rfl <;> rfl
  have ev2 : List.take 2 (List.drop (5 + d * 4) (mbc m)) = [.int .i64 (v1 m d), .int .i64 (v2 m d)] := by
    have : d = 0 ∨ d = 1 := by omega
    rcases this with rfl | rfl <;> rfl
  have cl : (cxc c).length = 4 := rfl
  have cc : (cxc c).all PV.cell = true := rfl
  have ct4 : List.take 4 (cxc c) = cxc c := rfl
  have rl : (fmc pa ++ (fmc fu ++ fmc fi)).length = 15 := rfl
  have rc : (fmc pa ++ (fmc fu ++ fmc fi)).all PV.cell = true := rfl
  have rt : List.take 15 (fmc pa ++ (fmc fu ++ fmc fi)) = fmc pa ++ (fmc fu ++ fmc fi) := rfl
  have hkk : m.k = 0 ∨ m.k = 2 := by rcases fm_k hf with h | h | h <;> omega
  have hD : dirD c (mbP c m) pa fu fi d mx my = dirP c (mbP c m).fp (v1 (mbP c m) d) (v2 (mbP c m) d) (v3 (mbP c m) d) (v4 (mbP c m) d) (s1 (mbP c m) d) (s2 (mbP c m) d) pa fu fi (d : Int) mx my := rfl
  -- what the two kinds have in common
  obtain ⟨S, hS, hS2⟩ : ∃ S : Int, s1 (mbP c m) d = S ∧ (if m.k = 0 then pcx c else s1 m d) = S := by
    refine ⟨_, rfl, ?_⟩
    unfold mbP at hu ⊢
    rcases hkk with h | h
    · rw [if_pos h] at hu ⊢
      rw [if_pos h]
      unfold us stl at hu
      unfold s1 stl
      dsimp only at hu ⊢
      by_cases h0 : d = 0
      · rw [if_pos h0]
      · rw [if_neg h0] at hu
        rw [if_neg h0, if_pos (by simpa using hu)]
    · rw [if_neg (by omega), if_neg (by omega)]
  obtain ⟨hfp, hv1, hv2⟩ : (mbP c m).fp = m.fp ∧ v1 (mbP c m) d = v1 m d ∧ v2 (mbP c m) d = v2 m d := by
    unfold mbP
    rcases hkk with h | h
    · rw [if_pos h]
      have hz : zmb m = true := by
        unfold fmS at hf
        rw [Bool.and_eq_true, if_pos h, Bool.and_eq_true] at hf
        exact hf.2.2
      obtain ⟨q1, q2, q3, _⟩ := zmb_f hz c d
      exact ⟨q1.symm, q2.symm, q3.symm⟩
    · rw [if_neg (by omega)]; exact ⟨rfl, rfl, rfl⟩
  have hrest : m.fp = true → mbP c m = m ∧ s1 m d = S ∧ (s1 m d = 0 ∨ s1 m d = 1) ∧ (s2 m d = 0 ∨ s2 m d = 1) ∧ vrg (v1 m d) (v2 m d) = true ∧ vrg (v3 m d) (v4 m d) = true := fun hp => by
    have h2 : m.k = 2 := by
      rcases hkk with h | h
      · have hz : zmb m = true := by
          unfold fmS at hf
          rw [Bool.and_eq_true, if_pos h, Bool.and_eq_true] at hf
          exact hf.2.2
        obtain ⟨_, _, _, q4⟩ := zmb_f hz c d
        rw [hp] at q4; cases q4
      · exact h
    have hm : mbP c m = m := if_neg (by omega)
    rw [hm] at hu hS
    exact ⟨hm, hS, (fm_two hf h2).1.f d hu hp⟩
  rw [hfp, hv1, hv2, hS] at hD
  have rf := fun L => Reference_ref c pa fu fi (d : Int) S L
  have pc := fun L => pcx_ref c L
  unfold dirP at hD
  generalize dirD c (mbP c m) pa fu fi d mx my = R at hD ⊢
  generalize refS c pa fu fi (d : Int) S = T at rf hD
  obtain ⟨g, e⟩ := T
  simp only at rf hD
  have g5 : (fmc g).all PV.cell = true := rfl
  have g7 : (fmc g).length = 5 := rfl
  have g8 : List.take 5 (fmc g) = fmc g := rfl
  have z9 : List.drop 5 [PV.int .i64 0, PV.int .i64 0, PV.slice [] 0 true, PV.slice [] 0 true, PV.slice [] 0 true] = [] := rfl
  have r5 : (fmc R.1).all PV.cell = true := rfl
  have r7 : (fmc R.1).length = 5 := rfl
  have r8 : List.take 5 (fmc R.1) = fmc R.1 := rfl
  refine CallOk.body (F0 := [(0, .agg (cxc c)), (1, .agg (fmc pa ++ (fmc fu ++ fmc fi))), (2, .agg (mbc m)), (3, .int .i64 (d : Int)), (4, .int .i64 mx), (5, .int .i64 my)]) Tryz.func36 rfl Tryz.ntmps36 Tryz.results36 rfl (by kernel_rfl) rfl ?_
  (repeat refine PW.seq ?_); refine PW.rg rfl fun K hK => ?_; simp (maxSteps := 3000000) (disch := omega) only [go_sem, ↓reduceIte, reduceCtorEq, pappend, plen, cc, rc, m2]; refine hK _ _ ?_; clear hK K
  (repeat refine PW.seq ?_); refine PW.rg rfl fun K hK => ?_; simp (maxSteps := 3000000) (disch := omega) only [go_sem, ↓reduceIte, reduceCtorEq, pappend, plen, e4, es]; refine hK _ _ ?_; clear hK K
  (repeat refine PW.seq ?_); refine PW.rg rfl fun K hK => ?_; simp (maxSteps := 3000000) (disch := omega) only [go_sem, ↓reduceIte, reduceCtorEq, pappend, plen, e4, m3]; refine hK _ _ ?_; clear hK K
  suffices hrst : PW Tryz.prog _ _ [(3, .int .i64 (d : Int)), (4, .int .i64 mx), (5, .int .i64 my), (6, .ptr H.length 0 0), (7, .ptr (H.length + 1) 0 0), (8, .ptr (H.length + 2) 0 0), (12, .ptr (H.length + 3) 0 0), (14, .int .i64 S)] (H ++ [⟨33, 0, cxc c⟩, ⟨55, 0, fmc pa ++ (fmc fu ++ fmc fi)⟩, ⟨50, 0, mbc m⟩, ⟨53, 0, [.int .i64 0, .int .i64 0, .slice [] 0 true, .slice [] 0 true, .slice [] 0 true]⟩]) _ by
    (repeat refine PW.seq ?_); refine PW.cond (t := _) rfl (fun h => ?_) (fun h => ?_)
    · have hz : m.k = 0 := by simpa using h
      rw [if_pos hz] at hS2
      (repeat refine PW.seq ?_); refine PW.rg rfl fun K hK => ?_; simp (maxSteps := 3000000) (disch := omega) only [go_sem, ↓reduceIte, reduceCtorEq, pappend, plen, cl, ct4]; refine VCx.call (pc _) rfl ?_; simp (maxSteps := 3000000) (disch := omega) only [go_sem, ↓reduceIte, reduceCtorEq, pappend, plen, cl, ct4]; refine hK _ _ ?_; clear hK K
      exact PW.at [3, 4, 5, 6, 7, 8, 12, 14] hrst (by rw [← hS2]; rfl) rfl
    · have hz : m.k ≠ 0 := by simpa using h
      rw [if_neg hz] at hS2
      refine PW.skip ?_
      exact PW.at [3, 4, 5, 6, 7, 8, 12, 14] hrst (by rw [← hS2]; rfl) rfl
  (repeat refine PW.seq ?_); refine PW.rg rfl fun K hK => ?_; simp (maxSteps := 3000000) (disch := omega) only [go_sem, ↓reduceIte, reduceCtorEq, pappend, plen, cl, ct4, rl, rt, g5, g7]; refine VCx.call (rf _) rfl ?_; simp (maxSteps := 3000000) (disch := omega) only [go_sem, ↓reduceIte, reduceCtorEq, pappend, plen, cl, ct4, rl, rt, g5, g7]; refine hK _ _ ?_; clear hK K
  (repeat refine PW.seq ?_); refine PW.rg rfl fun K hK => ?_; simp (maxSteps := 3000000) (disch := omega) only [go_sem, ↓reduceIte, reduceCtorEq, pappend, plen]; refine hK _ _ ?_; clear hK K
  (repeat refine PW.seq ?_); refine PW.cond (t := _) rfl (fun h => ?_) (fun h => ?_)
  · have he : e ≠ 0 := by simpa using h
    rw [if_pos he] at hD
    (repeat refine PW.seq ?_); refine PW.rg rfl fun K hK => ?_; simp (maxSteps := 3000000) (disch := omega) only [go_sem, ↓reduceIte, reduceCtorEq, pappend, plen]; refine hK _ _ ?_; clear hK K
    refine PW.ret ⟨.tup [.agg [.int .i64 0, .int .i64 0, .slice [] 0 true, .slice [] 0 true, .slice [] 0 true], .int .i64 e], by simp (maxSteps := 3000000) (disch := omega) only [go_sem, ↓reduceIte, reduceCtorEq, pappend, plen, presults, presult, List.mapM_cons, List.mapM_nil, Option.pure_def, Option.bind_eq_bind, Option.bind_some, Array.toList], ?_⟩
    rw [hD]
    exact Fin.base (fz0 _ _ _)
  have he : e = 0 := by simpa using h
  rw [if_neg (by simp [he])] at hD
  refine PW.skip ?_
  (repeat refine PW.seq ?_); refine PW.rg rfl fun K hK => ?_; simp (maxSteps := 3000000) (disch := omega) only [go_sem, ↓reduceIte, reduceCtorEq, pappend, plen, e4, efp]; refine hK _ _ ?_; clear hK K
  (repeat refine PW.seq ?_); refine PW.cond (t := _) rfl (fun h => ?_) (fun h => ?_)
  · have hp : m.fp = true := h
    obtain ⟨hm, q1, q2, q3, q4, q5⟩ := hrest hp
    rw [hp, if_pos rfl, hm, ← q1] at hD
    have fl := fun L => fields_ref g mx my (v1 m d) (v2 m d) (v3 m d) (v4 m d) (s1 m d) (s2 m d) q2 q3 q4 q5 L
    rw [← hD] at fl
    (repeat refine PW.seq ?_); refine PW.drawi [H.length + 3] [(12, [0])] [] [52] mix (by kernel_rfl) (by simp <;> omega) fun K hK => ?_
    simp (maxSteps := 3000000) (disch := omega) only [go_sem, ↓reduceIte, reduceCtorEq, pappend, plen, arith, e4, ev4, ess, g7, g8]
    refine VCj.read (fun _ _ => fl _) rfl ?_
    simp (maxSteps := 3000000) (disch := omega) only [go_sem, ↓reduceIte, reduceCtorEq, pappend, plen, r5, r7, z9]
    refine hK _ _ ?_; clear hK K
    refine PW.ret ⟨.tup [.agg (fmc R.1), .int .i64 R.2], by simp (maxSteps := 3000000) (disch := omega) only [go_sem, ↓reduceIte, reduceCtorEq, pappend, plen, presults, presult, List.mapM_cons, List.mapM_nil, Option.pure_def, Option.bind_eq_bind, Option.bind_some, Array.toList, r7, r8], ?_⟩
    exact Fin.base (.id (fe_scoped _ _ _ _ _ _ _ _ _ _))
  have hp : m.fp = false := h
  rw [hp, if_neg (by simp), ← prdG_T] at hD
  have sx := fun L => t16_ref mx L
  have sy := fun L => t16_ref my L
  have tx := t16_bd mx
  have ty := t16_bd my
  have pr := fun L => predictF_ref g (t16 mx) (t16 my) (v1 m d) (v2 m d) 16 (.inr rfl) (by omega) L
  rw [← hD] at pr
  refine PW.skip ?_
  (repeat refine PW.seq ?_); refine PW.drawi [H.length + 3] [(12, [0])] [] [57, 59, 65] mix (by kernel_rfl) (by simp <;> omega) fun K hK => ?_
  simp (maxSteps := 3000000) (disch := omega) only [go_sem, ↓reduceIte, reduceCtorEq, pappend, plen, arith, e4, ev2, g7, g8]
  refine VCj.read (fun _ _ => sx _) rfl ?_
  simp (maxSteps := 3000000) (disch := omega) only [go_sem, ↓reduceIte, reduceCtorEq, pappend, plen]
  refine VCj.read (fun _ _ => sy _) rfl ?_
  simp (maxSteps := 3000000) (disch := omega) only [go_sem, ↓reduceIte, reduceCtorEq, pappend, plen, arith, e4, ev2, g7, g8]
  refine VCj.read (fun _ _ => pr _) rfl ?_
  simp (maxSteps := 3000000) (disch := omega) only [go_sem, ↓reduceIte, reduceCtorEq, pappend, plen, r5, r7, z9]
  refine hK _ _ ?_; clear hK K
  refine PW.ret ⟨.tup [.agg (fmc R.1), .int .i64 R.2], by simp (maxSteps := 3000000) (disch := omega) only [go_sem, ↓reduceIte, reduceCtorEq, pappend, plen, presults, presult, List.mapM_cons, List.mapM_nil, Option.pure_def, Option.bind_eq_bind, Option.bind_some, Array.toList, r7, r8], ?_⟩
  exact Fin.base (.id (fe_scoped _ _ _ _ _ _ _ _ _ _))

end Go.Proofs.YtahomnplappbpaaGreatDoor.Sc
