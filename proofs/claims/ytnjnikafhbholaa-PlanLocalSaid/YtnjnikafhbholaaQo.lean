/-
  The law PlanLocal, the walk.
-/
import Derived.Test.YtnjnikafhbholaaQn
import Derived.Test.YtnjnikafhbholaaAw
namespace Go.Proofs.Ytnjnikafhbholaa.Sc
set_option linter.all false
set_option linter.unusedVariables false
set_option linter.unusedSimpArgs false
open Pm Ty Go.RowKit
open Pl (Pa Sh PF PaOk arr sh kd adj st en pts cpd jn ext shm shn tys)

set_option maxRecDepth 100000 in
set_option maxHeartbeats 8000000 in
theorem law_local (L L' : List Int) (g g' : Bool) (H : Heap) : CallOk Try.prog 10 [.slice (is L) L.length g, .slice (is L') L'.length g'] H (.bool true) H := by
  have mo := fun K => made_ok L g K
  have mo' := fun K => made_ok L' g' K
  have hf := flm_more L
  have hf' := flm_more L'
  generalize flm L = f at *
  generalize flm L' = f' at *
  have lf := flc_len f hf.s
  have cf := flc_c f
  have lf' := flc_len f' hf'.s
  have cf' := flc_c f'
  have ls := sqc_len f.s hf.s
  have f0 : (flc f).take 135 = sqc f.s := by
    unfold flc
    rw [← ls]; exact List.take_left
  have f1 : (flc f)[135]? = some (.bool f.top) := by unfold flc; rw [List.getElem?_append_right (by omega), ls]; rfl
  have f2 : (flc f)[136]? = some (.slice (f.ex.flatMap exc) f.ex.length false) := by unfold flc; rw [List.getElem?_append_right (by omega), ls]; rfl
  have f3 : (flc f)[137]? = some (.slice (f.me.flatMap ixc) f.me.length false) := by unfold flc; rw [List.getElem?_append_right (by omega), ls]; rfl
  have f2' : (flc f')[136]? = some (.slice (f'.ex.flatMap exc) f'.ex.length false) := by unfold flc; rw [List.getElem?_append_right (by rw [sqc_len f'.s hf'.s]; omega), sqc_len f'.s hf'.s]; rfl
  have s1 := fun n => exl_sc n f.ex hf.ex
  have s2 := fun n => exl_sc n f'.ex hf'.ex
  have hME : ∀ x ∈ f.me, SqL x.sq ∧ x.en.length ≤ 1000000 := fun x hx => ⟨(hf.ix x hx).1, by have := (hf.ix x hx).2; omega⟩
  have hme := hf.me
  obtain ⟨E, hE⟩ : ∃ E, f.ex ++ ex0 :: f'.ex = E := ⟨_, rfl⟩
  have hEl : E.length = f.ex.length + (f'.ex.length + 1) := by rw [← hE]; simp
  have hEc : E.flatMap exc = f.ex.flatMap exc ++ (exc ex0 ++ f'.ex.flatMap exc) := by rw [← hE, List.flatMap_append, List.flatMap_cons]
  have s3 : ∀ n, ∀ x ∈ E.flatMap exc, Scoped n x := fun n x hx => by
    rw [hEc] at hx
    rcases List.mem_append.1 hx with hx | hx
    · exact s1 n x hx
    · rcases List.mem_append.1 hx with hx | hx
      · exact exc_sc n ex0 ⟨fun k => sl_scoped (by simp [ex0]), fun h => by cases h⟩ x hx
      · exact s2 n x hx
  have k1 := fun K => make_ok f.s f.top E false f.me false K hf.ok hf.vs hME (by omega) (by have := hf.n; have := hf'.n; omega) s3
  have k2 := fun K => make_ok f.s f.top f.ex false f.me false K hf.ok hf.vs hME (by omega) (by have := hf.n; omega) s1
  have k3 := fun K => make_ok f.s f.top f'.ex false f.me false K hf.ok hf.vs hME (by omega) (by have := hf'.n; omega) s2
  have n1 := NB_map f.s f.top f.me E (fun k hk => (hME _ (getD_mem ix0 f.me k hk)).2)
  have n2 := NB_map f.s f.top f.me f.ex (fun k hk => (hME _ (getD_mem ix0 f.me k hk)).2)
  have n3 := NB_map f.s f.top f.me f'.ex (fun k hk => (hME _ (getD_mem ix0 f.me k hk)).2)
  have hmap : E.map (shOf f.s f.top f.me) = f.ex.map (shOf f.s f.top f.me) ++ none :: f'.ex.map (shOf f.s f.top f.me) := by
    rw [← hE, List.map_append, List.map_cons]; rfl
  have l1 : (f.ex.map (shOf f.s f.top f.me)).length = f.ex.length := by rw [List.length_map]
  have l2 : (f'.ex.map (shOf f.s f.top f.me)).length = f'.ex.length := by rw [List.length_map]
  have p1 := (Pl.pts_ok (E.map (shOf f.s f.top f.me)) E.length).front
  have p2 := (Pl.pts_ok (f.ex.map (shOf f.s f.top f.me)) f.ex.length).front
  have p3 := (Pl.pts_ok (f'.ex.map (shOf f.s f.top f.me)) f'.ex.length).front
  have b1 := (pts_PB (E.map (shOf f.s f.top f.me)) E.length).2
  have b2 := (pts_PB (f.ex.map (shOf f.s f.top f.me)) f.ex.length).2
  have b3 := (pts_PB (f'.ex.map (shOf f.s f.top f.me)) f'.ex.length).2
  generalize hlE : E.map (shOf f.s f.top f.me) = lE at *
  generalize f.ex.map (shOf f.s f.top f.me) = l at *
  generalize f'.ex.map (shOf f.s f.top f.me) = l' at *
  have hn := hf.n
  have hn' := hf'.n
  have o1 : outL lE 0 f.ex.length E.length = outL l 0 f.ex.length f.ex.length := outL_eq rfl (by omega) (by omega) fun k hk => by
    rw [hmap, Nat.zero_add]; exact local_1 l l' k (by omega)
  have o2 : outL lE (f.ex.length + 1) E.length E.length = outL l' 0 f'.ex.length f'.ex.length := outL_eq (by omega) (by omega) (by omega) fun k hk => by
    rw [hmap, Nat.zero_add, ← l1]; exact local_2 l l' k (by omega)
  have q1 := fun K => frames_ok lE _ false _ 0 f.ex.length K p1 n1 (by omega) (by omega) (by omega) (by omega)
  have q2 := fun K => frames_ok l _ false _ 0 f.ex.length K p2 n2 (by omega) (by omega) (by omega) (by omega)
  have q3 := fun K => frames_ok lE _ false _ (f.ex.length + 1) E.length K p1 n1 (by omega) (by omega) (by omega) (by omega)
  have q4 := fun K => frames_ok l' _ false _ 0 f'.ex.length K p3 n3 (by omega) (by omega) (by omega) (by omega)
  have u1 := fun K => sameP_ok (outL l 0 f.ex.length f.ex.length) false false K (by rw [outL_len]; omega)
  have u2 := fun K => sameP_ok (outL l' 0 f'.ex.length f'.ex.length) false false K (by rw [outL_len]; omega)
  rw [outL_len] at u1 u2
  rw [o1] at q1
  rw [o2, show E.length - (f.ex.length + 1) = f'.ex.length - 0 by omega] at q3
  generalize (outL l 0 f.ex.length f.ex.length).flatMap pac = O1 at *
  generalize (outL l' 0 f'.ex.length f'.ex.length).flatMap pac = O2 at *
  have c1 := exl_len f.ex
  have c2 := exl_len f'.ex
  have ca := exl_c f.ex
  have cb := exl_c f'.ex
  refine CallOk.body (F0 := [(0, .slice (is L) L.length g), (1, .slice (is L') L'.length g')]) Try.func10 rfl Try.ntmps10 Try.results10 rfl (by kernel_rfl) rfl ?_
  (repeat refine PW.seq ?_); refine PW.rg rfl fun K hK => ?_; simp (maxSteps := 3000000) (disch := omega) only [go_sem, ↓reduceIte, reduceCtorEq, pappend, plen]; refine hK _ _ ?_; clear hK K
  (repeat refine PW.seq ?_); refine PW.rg rfl fun K hK => ?_; simp (maxSteps := 3000000) (disch := omega) only [go_sem, ↓reduceIte, reduceCtorEq, pappend, plen]
  refine VCx.call (mo _) rfl ?_; simp (maxSteps := 3000000) (disch := omega) only [go_sem, ↓reduceIte, reduceCtorEq, pappend, plen]
  refine VCx.call (mo' _) rfl ?_; simp (maxSteps := 3000000) (disch := omega) only [go_sem, ↓reduceIte, reduceCtorEq, pappend, plen, lf, cf, lf', cf']
  refine hK _ _ ?_; clear hK K
  (repeat refine PW.seq ?_)
  suffices hrest : ∀ ver : Nat, PW Try.prog _ _ [(5, .ptr H.length 0 0), (6, .ptr (H.length + 1) 0 0), (7, .msl (H.length + 2) ver 0 E.length 8 true)] (H ++ [⟨50, 0, flc f⟩, ⟨50, 0, flc f'⟩, ⟨81, ver, E.flatMap exc⟩]) _ by
    refine PW.view (Vs.place 81) ?_
    have e5 : (H ++ [⟨50, 0, flc f⟩, ⟨50, 0, flc f'⟩] ++ [⟨81, 0, []⟩] : Heap) = H ++ [⟨50, 0, flc f⟩, ⟨50, 0, flc f'⟩, ⟨81, 0, []⟩] := List.append_assoc _ _ _
    by_cases hfe : f.ex = []
    · have hE0 : f.ex.flatMap exc = [] := by rw [hfe]; rfl
      have hL0 : f.ex.length = 0 := by rw [hfe]; rfl
      rw [hE0, List.nil_append] at hEc
      (repeat refine PW.seq ?_); refine PW.drawi [H.length + 2] [(25, [0]), (28, [0]), (7, [0])] [(25, 0)] [] mix (by kernel_rfl) (by simp <;> omega) fun K hK => ?_
      by_cases hfe' : f'.ex = []
      · have hE0' : f'.ex.flatMap exc = [] := by rw [hfe']; rfl
        have hL0' : f'.ex.length = 0 := by rw [hfe']; rfl
        rw [hE0', List.append_nil] at hEc
        simp (maxSteps := 3000000) (disch := omega) only [go_sem, ↓reduceIte, reduceCtorEq, pappend, plen, nilApp, lf, lf', f2, f2', hE0, hL0, hE0', hL0', hp2, hs2]
        refine hK _ _ ?_; clear hK K
        refine PW.at [5, 6, 7] (hrest 1) ?_ ?_
        · simp [kp, slot, Nat.beq, hEl, hEc, hL0, hL0', exc, ex0, c1, c2] <;> omega
        · simp [hEc, exc, ex0, c1, c2] <;> omega
      · have hl7 : 0 < f'.ex.length := List.length_pos_iff.2 hfe'
        have hl8 : ¬ f'.ex.length = 0 := by omega
        simp (maxSteps := 3000000) (disch := omega) only [go_sem, ↓reduceIte, reduceCtorEq, pappend, plen, nilApp, lf, lf', f2, f2', hE0, hL0, hp2, hs2, c2]
        refine hK _ _ ?_; clear hK K
        refine PW.at [5, 6, 7] (hrest (E.flatMap exc).length) ?_ ?_
        · simp [kp, slot, Nat.beq, hEl, hEc, hL0, exc, ex0, c1, c2] <;> omega
        · simp [hEc, exc, ex0, c1, c2] <;> omega
    · have hl5 : 0 < f.ex.length := List.length_pos_iff.2 hfe
      have hl6 : ¬ f.ex.length = 0 := by omega
      (repeat refine PW.seq ?_); refine PW.drawi [H.length + 2] [(22, [0]), (25, [0]), (28, [0]), (7, [0])] [(22, 0)] [] mix (by kernel_rfl) (by simp <;> omega) fun K hK => ?_
      by_cases hfe' : f'.ex = []
      · have hE0' : f'.ex.flatMap exc = [] := by rw [hfe']; rfl
        have hL0' : f'.ex.length = 0 := by rw [hfe']; rfl
        rw [hE0', List.append_nil] at hEc
        simp (maxSteps := 3000000) (disch := omega) only [go_sem, ↓reduceIte, reduceCtorEq, pappend, plen, nilApp, lf, lf', f2, f2', hE0', hL0', hp2, hs2, c1, List.length_append]
        refine hK _ _ ?_; clear hK K
        refine PW.at [5, 6, 7] (hrest (E.flatMap exc).length) ?_ ?_
        · simp [kp, slot, Nat.beq, hEl, hEc, hL0', exc, ex0, c1, c2] <;> omega
        · simp [hEc, exc, ex0, c1, c2] <;> omega
      · have hl7 : 0 < f'.ex.length := List.length_pos_iff.2 hfe'
        have hl8 : ¬ f'.ex.length = 0 := by omega
        simp (maxSteps := 3000000) (disch := omega) only [go_sem, ↓reduceIte, reduceCtorEq, pappend, plen, nilApp, lf, lf', f2, f2', hp2, hs2, c1, c2, List.length_append]
        refine hK _ _ ?_; clear hK K
        refine PW.at [5, 6, 7] (hrest (E.flatMap exc).length) ?_ ?_
        · simp [kp, slot, Nat.beq, hEl, hEc, List.length_append, exc, ex0, c1, c2] <;> omega
        · simp [hEc, exc, ex0, c1, c2] <;> omega
  intro ver
  have hlE8 := exl_len E
  refine PW.view (Vs.trim (F1 := [(5, .ptr H.length 0 0), (6, .ptr (H.length + 1) 0 0), (7, .slice (E.flatMap exc) E.length false)]) (H1 := H ++ [⟨50, 0, flc f⟩, ⟨50, 0, flc f'⟩]) ?_ (by simp) (List.append_assoc _ [_, _] [_]).symm ⟨.id (.ptr (by simp)), .id (.ptr (by simp)), Fz.mslC (e := 81) (xs := E.flatMap exc) (by simp) (hp2 _ _ _ _ _) hlE8 (FzC.refl (s3 _)), trivial⟩) ?_
  · exact hscU 2 (by
      intro q hq t ht
      simp only [List.mem_cons, List.not_mem_nil, or_false] at hq
      rcases hq with rfl | rfl
      · exact flc_sc _ _ hf.ex _ ht
      · exact flc_sc _ _ hf'.ex _ ht)
  (repeat refine PW.seq ?_); refine PW.rg rfl fun K hK => ?_; simp (maxSteps := 3000000) (disch := omega) only [go_sem, ↓reduceIte, reduceCtorEq, pappend, plen, lf, f0, f1, f2, f3]; refine VCx.call (k1 _) rfl ?_; simp (maxSteps := 3000000) (disch := omega) only [go_sem, ↓reduceIte, reduceCtorEq, pappend, plen, lf, f0, f1, f2, f3]; refine hK _ _ ?_; clear hK K
  (repeat refine PW.seq ?_); refine PW.rg rfl fun K hK => ?_; simp (maxSteps := 3000000) (disch := omega) only [go_sem, ↓reduceIte, reduceCtorEq, pappend, plen, lf, f0, f1, f2, f3]; refine VCx.call (k2 _) rfl ?_; simp (maxSteps := 3000000) (disch := omega) only [go_sem, ↓reduceIte, reduceCtorEq, pappend, plen, lf, f0, f1, f2, f3]; refine hK _ _ ?_; clear hK K
  (repeat refine PW.seq ?_); refine PW.rg rfl fun K hK => ?_; simp (maxSteps := 3000000) (disch := omega) only [go_sem, ↓reduceIte, reduceCtorEq, pappend, plen, lf, lf', f0, f1, f2', f3]; refine VCx.call (k3 _) rfl ?_; simp (maxSteps := 3000000) (disch := omega) only [go_sem, ↓reduceIte, reduceCtorEq, pappend, plen, lf, lf', f0, f1, f2', f3]; refine hK _ _ ?_; clear hK K
  (repeat refine PW.seq ?_); refine PW.rg rfl fun K hK => ?_; simp (maxSteps := 3000000) (disch := omega) only [go_sem, ↓reduceIte, reduceCtorEq, pappend, plen]; refine hK _ _ ?_; clear hK K
  (repeat refine PW.seq ?_); refine PW.cond (t := _) rfl (fun h => ?_) (fun h => ?_)
  · cases h
  refine PW.skip ?_
  (repeat refine PW.seq ?_); refine PW.rg rfl fun K hK => ?_; simp (maxSteps := 3000000) (disch := omega) only [go_sem, ↓reduceIte, reduceCtorEq, pappend, plen, lf, f2]; refine hK _ _ ?_; clear hK K
  have e6 : (f.ex.length : Int) + 1 = ((f.ex.length + 1 : Nat) : Int) := by omega
  (repeat refine PW.seq ?_); refine PW.draw mix (by kernel_rfl) fun K hK => ?_; simp (maxSteps := 3000000) (disch := omega) only [go_sem, ↓reduceIte, reduceCtorEq, pappend, plen, e6]
  (repeat' (first | ((first | refine VO_cond (fun h => ?_) (fun h => ?_) | refine VOd_cond (fun h => ?_) (fun h => ?_) | refine VOg_cond (fun h => ?_) (fun h => ?_) | refine VOh_cond (fun h => ?_) (fun h => ?_) | refine VOi_cond (fun h => ?_) (fun h => ?_) | refine And.intro (fun h => ?_) (fun h => ?_)) <;> (try simp only [Bool.not_eq_true', Bool.not_eq_false', decide_eq_true_eq, decide_eq_false_iff_not] at h) <;> simp (maxSteps := 3000000) (disch := omega) only [go_sem, ↓reduceIte, reduceCtorEq, pappend, plen, lf, lf', f2', e6, h]) | (refine VCx.call (q1 _) rfl ?_; simp (maxSteps := 3000000) (disch := omega) only [go_sem, ↓reduceIte, reduceCtorEq, pappend, plen, lf, lf', f2', e6]) | (refine VCx.call (q2 _) rfl ?_; simp (maxSteps := 3000000) (disch := omega) only [go_sem, ↓reduceIte, reduceCtorEq, pappend, plen, lf, lf', f2', e6]) | (refine VCx.call (u1 _) rfl ?_; simp (maxSteps := 3000000) (disch := omega) only [go_sem, ↓reduceIte, reduceCtorEq, pappend, plen, lf, lf', f2', e6]) | (refine VCx.call (q3 _) rfl ?_; simp (maxSteps := 3000000) (disch := omega) only [go_sem, ↓reduceIte, reduceCtorEq, pappend, plen, lf, lf', f2', e6]) | (refine VCx.call (q4 _) rfl ?_; simp (maxSteps := 3000000) (disch := omega) only [go_sem, ↓reduceIte, reduceCtorEq, pappend, plen, lf, lf', f2', e6]) | (refine VCx.call (u2 _) rfl ?_; simp (maxSteps := 3000000) (disch := omega) only [go_sem, ↓reduceIte, reduceCtorEq, pappend, plen, lf, lf', f2', e6]) | (refine VCy.call (q1 _) rfl ?_; simp (maxSteps := 3000000) (disch := omega) only [go_sem, ↓reduceIte, reduceCtorEq, pappend, plen, lf, lf', f2', e6]) | (refine VCy.call (q2 _) rfl ?_; simp (maxSteps := 3000000) (disch := omega) only [go_sem, ↓reduceIte, reduceCtorEq, pappend, plen, lf, lf', f2', e6]) | (refine VCy.call (u1 _) rfl ?_; simp (maxSteps := 3000000) (disch := omega) only [go_sem, ↓reduceIte, reduceCtorEq, pappend, plen, lf, lf', f2', e6]) | (refine VCy.call (q3 _) rfl ?_; simp (maxSteps := 3000000) (disch := omega) only [go_sem, ↓reduceIte, reduceCtorEq, pappend, plen, lf, lf', f2', e6]) | (refine VCy.call (q4 _) rfl ?_; simp (maxSteps := 3000000) (disch := omega) only [go_sem, ↓reduceIte, reduceCtorEq, pappend, plen, lf, lf', f2', e6]) | (refine VCy.call (u2 _) rfl ?_; simp (maxSteps := 3000000) (disch := omega) only [go_sem, ↓reduceIte, reduceCtorEq, pappend, plen, lf, lf', f2', e6]) | (refine VCz.call (fun _ => q1 _) rfl ?_; simp (maxSteps := 3000000) (disch := omega) only [go_sem, ↓reduceIte, reduceCtorEq, pappend, plen, lf, lf', f2', e6]) | (refine VCz.call (fun _ => q2 _) rfl ?_; simp (maxSteps := 3000000) (disch := omega) only [go_sem, ↓reduceIte, reduceCtorEq, pappend, plen, lf, lf', f2', e6]) | (refine VCz.call (fun _ => u1 _) rfl ?_; simp (maxSteps := 3000000) (disch := omega) only [go_sem, ↓reduceIte, reduceCtorEq, pappend, plen, lf, lf', f2', e6]) | (refine VCz.call (fun _ => q3 _) rfl ?_; simp (maxSteps := 3000000) (disch := omega) only [go_sem, ↓reduceIte, reduceCtorEq, pappend, plen, lf, lf', f2', e6]) | (refine VCz.call (fun _ => q4 _) rfl ?_; simp (maxSteps := 3000000) (disch := omega) only [go_sem, ↓reduceIte, reduceCtorEq, pappend, plen, lf, lf', f2', e6]) | (refine VCz.call (fun _ => u2 _) rfl ?_; simp (maxSteps := 3000000) (disch := omega) only [go_sem, ↓reduceIte, reduceCtorEq, pappend, plen, lf, lf', f2', e6]) | (refine VCk.call (fun _ _ => q1 _) rfl ?_; simp (maxSteps := 3000000) (disch := omega) only [go_sem, ↓reduceIte, reduceCtorEq, pappend, plen, lf, lf', f2', e6]) | (refine VCk.call (fun _ _ => q2 _) rfl ?_; simp (maxSteps := 3000000) (disch := omega) only [go_sem, ↓reduceIte, reduceCtorEq, pappend, plen, lf, lf', f2', e6]) | (refine VCk.call (fun _ _ => u1 _) rfl ?_; simp (maxSteps := 3000000) (disch := omega) only [go_sem, ↓reduceIte, reduceCtorEq, pappend, plen, lf, lf', f2', e6]) | (refine VCk.call (fun _ _ => q3 _) rfl ?_; simp (maxSteps := 3000000) (disch := omega) only [go_sem, ↓reduceIte, reduceCtorEq, pappend, plen, lf, lf', f2', e6]) | (refine VCk.call (fun _ _ => q4 _) rfl ?_; simp (maxSteps := 3000000) (disch := omega) only [go_sem, ↓reduceIte, reduceCtorEq, pappend, plen, lf, lf', f2', e6]) | (refine VCk.call (fun _ _ => u2 _) rfl ?_; simp (maxSteps := 3000000) (disch := omega) only [go_sem, ↓reduceIte, reduceCtorEq, pappend, plen, lf, lf', f2', e6])))
  refine VCy.callP awake31 rfl ?_; simp (maxSteps := 3000000) (disch := omega) only [go_sem, ↓reduceIte, reduceCtorEq, pappend, plen]
  refine hK _ _ ?_; clear hK K
  (refine PW.ret ⟨_, rfl, ?_⟩; first | refine .inl ⟨?_, rfl⟩ | refine Fin.base (.id' ?_ (.bool _)) | refine Fin.base (.id' ?_ (.int _ _)))
  rfl

end Go.Proofs.Ytnjnikafhbholaa.Sc
