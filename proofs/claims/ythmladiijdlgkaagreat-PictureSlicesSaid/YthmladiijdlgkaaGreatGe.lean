/-
  Contracts of chapter 10: macroblocks, the directions of prediction, the reference's.
-/
import Derived.Test.YthmladiijdlgkaaGreatGd
namespace Go.Proofs.YthmladiijdlgkaaGreat.Sc
set_option linter.all false
set_option linter.unusedVariables false
set_option linter.unusedSimpArgs false
open Pm Ty Go.RowKit
set_option maxHeartbeats 3200000 in
set_option maxRecDepth 10000 in
theorem dir0_ref (c : Cx) (m : Mb) (H : Heap) : CallOk Tryz.prog 105 [.agg (cxc c), .agg (mbc m), .int .i64 0] H (.bool (dirS c m.fp m.ua m.va m.vb m.vc m.vd m.sa m.sb)) H := by
  obtain ⟨k, ua, ub, fp, fd, va, vb, vc, vd, ve, vf, vg, vh, sa, sb, sc, sd, dl, ca, cb, cc, cd, ce, cf, lv⟩ := m
  simp only [mbc]
  have hall := is_cell lv
  generalize hr : dirS c fp ua va vb vc vd sa sb = r
  simp only [dirS] at hr
  have fo := fun H => fcx_ref c H
  generalize fcx c = ff at fo hr
  obtain ⟨t, s, ii, n⟩ := c
  have q1 := fun H => vrg_ref va vb H
  have q2 := fun H => vrg_ref vc vd H
  generalize vrg va vb = r1 at q1 hr
  generalize vrg vc vd = r2 at q2 hr
  refine CallOk.body (F0 := [(0, .agg [.int .i64 t, .int .i64 s, .bool ii, .bool n]), (1, .agg (.int .i64 k :: .bool ua :: .bool ub :: .bool fp :: .bool fd :: .int .i64 va :: .int .i64 vb :: .int .i64 vc :: .int .i64 vd :: .int .i64 ve :: .int .i64 vf :: .int .i64 vg :: .int .i64 vh :: .int .i64 sa :: .int .i64 sb :: .int .i64 sc :: .int .i64 sd :: .int .i64 dl :: .bool ca :: .bool cb :: .bool cc :: .bool cd :: .bool ce :: .bool cf :: is lv)), (2, .int .i64 0)]) Tryz.func105 rfl Tryz.ntmps105 Tryz.results105 rfl (by kernel_rfl) rfl ?_
  (repeat refine PW.seq ?_); refine PW.rg rfl fun K hK => ?_; simp (disch:=omega) only [go_sem, hall]; refine hK _ _ ?_; clear hK K
  (repeat refine PW.seq ?_)
  refine PW.view (Vs.place 56) (PW.view (Vs.place 62) ?_)
  (repeat refine PW.seq ?_); refine PW.drawh ([H.length + 2, H.length + 3]) ([(7, H.length + 2), (8, H.length + 3)]) mix (by kernel_rfl) (by simp <;> omega) fun K hK => ?_
  simp (disch:=omega) only [go_sem, ↓reduceIte]
  refine hK _ _ ?_; clear hK K
  (repeat refine PW.seq ?_); refine PW.rg rfl fun K hK => ?_; simp (disch:=omega) only [go_sem, ↓reduceIte]; refine hK _ _ ?_; clear hK K
  (repeat refine PW.seq ?_); refine PW.cond (t := _) rfl (fun h => ?_) (fun h => ?_)
  · have hu : ua = false := by simpa using h
    subst hu
    (repeat refine PW.seq ?_); refine PW.rg rfl fun K hK => ?_; simp (disch:=omega) only [go_sem, ↓reduceIte, ↓eqV2]
    (repeat' ((first | refine VO_cond (fun h => ?_) (fun h => ?_) | refine VOd_cond (fun h => ?_) (fun h => ?_) | refine VOg_cond (fun h => ?_) (fun h => ?_) | refine VOh_cond (fun h => ?_) (fun h => ?_) | refine VOi_cond (fun h => ?_) (fun h => ?_) | refine And.intro (fun h => ?_) (fun h => ?_)) <;> (try simp only [Bool.not_eq_true', Bool.not_eq_false', decide_eq_true_eq, decide_eq_false_iff_not] at h) <;> simp (disch:=omega) only [go_sem, ↓eqI2, h]))
    all_goals (refine hK _ _ ?_; (refine PW.ret ⟨_, rfl, ?_⟩; first | refine .inl ⟨?_, rfl⟩ | refine Fin.base (.id' ?_ (.bool _)) | refine Fin.base (.id' ?_ (.int _ _))); clear hK q1 q2 fo hall; subst hr; (simp_all [slot] <;> first | rfl | omega | (rw [Bool.eq_iff_iff]; simp; done) | (rw [Bool.eq_iff_iff]; simp; omega)))
  have hu : ua = true := by simpa using h
  subst hu
  refine PW.skip ?_
  (repeat refine PW.seq ?_)
  refine PW.rgv (P := Tryz.prog) [3, 4, 7, 8] 59 (.bool (!(r1 && (r2 && ((decide (sa = 0) || decide (sa = 1)) && (decide (sb = 0) || decide (sb = 1))))))) ?_ ?_ ?_
  · rfl
  · cases r1 <;> cases r2 <;> simp (disch:=omega) only [go_sem, ↓reduceIte] <;> (repeat' (first | ((first | refine VO_cond (fun h => ?_) (fun h => ?_) | refine VOd_cond (fun h => ?_) (fun h => ?_) | refine VOg_cond (fun h => ?_) (fun h => ?_) | refine VOh_cond (fun h => ?_) (fun h => ?_) | refine VOi_cond (fun h => ?_) (fun h => ?_) | refine And.intro (fun h => ?_) (fun h => ?_)) <;> (try simp only [Bool.not_eq_true', Bool.not_eq_false', decide_eq_true_eq, decide_eq_false_iff_not] at h) <;> simp (disch:=omega) only [go_sem, ↓reduceIte, h]) | (refine VCx.call (q1 _) rfl ?_; simp (disch:=omega) only [go_sem, ↓reduceIte]) | (refine VCx.call (q2 _) rfl ?_; simp (disch:=omega) only [go_sem, ↓reduceIte]) | (refine VCy.call (q1 _) rfl ?_; simp (disch:=omega) only [go_sem, ↓reduceIte, reduceCtorEq, pappend, plen]) | (refine VCy.call (q2 _) rfl ?_; simp (disch:=omega) only [go_sem, ↓reduceIte, reduceCtorEq, pappend, plen]) | (refine VCz.call (fun _ => q1 _) rfl ?_; simp (disch:=omega) only [go_sem, ↓reduceIte, reduceCtorEq, pappend, plen]) | (refine VCz.call (fun _ => q2 _) rfl ?_; simp (disch:=omega) only [go_sem, ↓reduceIte, reduceCtorEq, pappend, plen]) | (refine VCk.call (fun _ _ => q1 _) rfl ?_; simp (disch:=omega) only [go_sem, ↓reduceIte, reduceCtorEq, pappend, plen]) | (refine VCk.call (fun _ _ => q2 _) rfl ?_; simp (disch:=omega) only [go_sem, ↓reduceIte, reduceCtorEq, pappend, plen]) | (refine VCj.now (q1 _) rfl ?_; simp (disch:=omega) only [go_sem, ↓reduceIte, reduceCtorEq, pappend, plen]) | (refine VCj.now (q2 _) rfl ?_; simp (disch:=omega) only [go_sem, ↓reduceIte, reduceCtorEq, pappend, plen])))
    all_goals (clear q1 q2 fo hall hr; (simp_all [] <;> first | rfl | omega | (rw [Bool.eq_iff_iff]; simp; done) | (rw [Bool.eq_iff_iff]; simp; omega)))
  (repeat refine PW.seq ?_); refine PW.cond (t := _) rfl (fun h => ?_) (fun h => ?_)
  · have hb : (r1 && (r2 && ((decide (sa = 0) || decide (sa = 1)) && (decide (sb = 0) || decide (sb = 1))))) = false := by simpa only [Bool.not_eq_true'] using h
    (repeat refine PW.seq ?_); refine PW.rg rfl fun K hK => ?_; simp (disch:=omega) only [go_sem]; refine hK _ _ ?_; clear hK K
    (refine PW.ret ⟨_, rfl, ?_⟩; first | refine .inl ⟨?_, rfl⟩ | refine Fin.base (.id' ?_ (.bool _)) | refine Fin.base (.id' ?_ (.int _ _)))
    clear q1 q2 fo hall
    subst hr
    cases r1 <;> cases r2 <;> simp_all [slot]
  have hb : (r1 && (r2 && ((decide (sa = 0) || decide (sa = 1)) && (decide (sb = 0) || decide (sb = 1))))) = true := by simpa only [Bool.not_eq_false'] using h
  refine PW.skip ?_
  (repeat refine PW.seq ?_)
  refine PW.rgv (P := Tryz.prog) [3, 4, 7, 8] 73 (.bool (!fp && (!(decide (vc = 0) && decide (vd = 0)) || !decide (sb = 0)))) ?_ ?_ ?_
  · rfl
  · simp (disch:=omega) only [go_sem, ↓reduceIte]
    (repeat' ((first | refine VO_cond (fun h => ?_) (fun h => ?_) | refine VOd_cond (fun h => ?_) (fun h => ?_) | refine VOg_cond (fun h => ?_) (fun h => ?_) | refine VOh_cond (fun h => ?_) (fun h => ?_) | refine VOi_cond (fun h => ?_) (fun h => ?_) | refine And.intro (fun h => ?_) (fun h => ?_)) <;> (try simp only [Bool.not_eq_true', Bool.not_eq_false'] at h) <;> simp (disch:=omega) only [go_sem, ↓reduceIte, ↓neV, h]))
    all_goals (clear q1 q2 fo hall hr hb; (simp_all [] <;> first | rfl | omega | (rw [Bool.eq_iff_iff]; simp; done) | (rw [Bool.eq_iff_iff]; simp; omega)))
  (repeat refine PW.seq ?_); refine PW.cond (t := _) rfl (fun h => ?_) (fun h => ?_)
  · (repeat refine PW.seq ?_); refine PW.rg rfl fun K hK => ?_; simp (disch:=omega) only [go_sem]; refine hK _ _ ?_; clear hK K
    (refine PW.ret ⟨_, rfl, ?_⟩; first | refine .inl ⟨?_, rfl⟩ | refine Fin.base (.id' ?_ (.bool _)) | refine Fin.base (.id' ?_ (.int _ _)))
    clear q1 q2 fo hall
    subst hr
    cases r1 <;> cases r2 <;> cases fp <;> simp_all [slot] <;> omega
  refine PW.skip ?_
  (repeat refine PW.seq ?_); refine PW.rg rfl fun K hK => ?_
  cases ff <;> simp (disch:=omega) only [go_sem, ↓reduceIte] <;> (repeat' (first | ((first | refine VO_cond (fun h => ?_) (fun h => ?_) | refine VOd_cond (fun h => ?_) (fun h => ?_) | refine VOg_cond (fun h => ?_) (fun h => ?_) | refine VOh_cond (fun h => ?_) (fun h => ?_) | refine VOi_cond (fun h => ?_) (fun h => ?_) | refine And.intro (fun h => ?_) (fun h => ?_)) <;> (try simp only [Bool.not_eq_true', Bool.not_eq_false'] at h) <;> simp (disch:=omega) only [go_sem, h]) | (refine VCx.call (fo _) rfl ?_; simp (disch:=omega) only [go_sem, ↓reduceIte]) | (refine VCy.call (fo _) rfl ?_; simp (disch:=omega) only [go_sem, ↓reduceIte, reduceCtorEq, pappend, plen]) | (refine VCz.call (fun _ => fo _) rfl ?_; simp (disch:=omega) only [go_sem, ↓reduceIte, reduceCtorEq, pappend, plen]) | (refine VCk.call (fun _ _ => fo _) rfl ?_; simp (disch:=omega) only [go_sem, ↓reduceIte, reduceCtorEq, pappend, plen]) | (refine VCj.now (fo _) rfl ?_; simp (disch:=omega) only [go_sem, ↓reduceIte, reduceCtorEq, pappend, plen])))
  all_goals (refine hK _ _ ?_; (refine PW.ret ⟨_, rfl, ?_⟩; first | refine .inl ⟨?_, rfl⟩ | refine Fin.base (.id' ?_ (.bool _)) | refine Fin.base (.id' ?_ (.int _ _))); clear hK q1 q2 fo hall; subst hr; cases r1 <;> cases r2 <;> simp_all [slot] <;> first | omega | (rw [Bool.eq_iff_iff]; simp; done) | (rw [Bool.eq_iff_iff]; simp; omega))
set_option maxHeartbeats 3200000 in
set_option maxRecDepth 10000 in
theorem dir1_ref (c : Cx) (m : Mb) (H : Heap) : CallOk Tryz.prog 105 [.agg (cxc c), .agg (mbc m), .int .i64 1] H (.bool (dirS c m.fp m.ub m.ve m.vf m.vg m.vh m.sc m.sd)) H := by
  obtain ⟨k, ua, ub, fp, fd, va, vb, vc, vd, ve, vf, vg, vh, sa, sb, sc, sd, dl, ca, cb, cc, cd, ce, cf, lv⟩ := m
  simp only [mbc]
  have hall := is_cell lv
  generalize hr : dirS c fp ub ve vf vg vh sc sd = r
  simp only [dirS] at hr
  have fo := fun H => fcx_ref c H
  generalize fcx c = ff at fo hr
  obtain ⟨t, s, ii, n⟩ := c
  have q1 := fun H => vrg_ref ve vf H
  have q2 := fun H => vrg_ref vg vh H
  generalize vrg ve vf = r1 at q1 hr
  generalize vrg vg vh = r2 at q2 hr
  refine CallOk.body (F0 := [(0, .agg [.int .i64 t, .int .i64 s, .bool ii, .bool n]), (1, .agg (.int .i64 k :: .bool ua :: .bool ub :: .bool fp :: .bool fd :: .int .i64 va :: .int .i64 vb :: .int .i64 vc :: .int .i64 vd :: .int .i64 ve :: .int .i64 vf :: .int .i64 vg :: .int .i64 vh :: .int .i64 sa :: .int .i64 sb :: .int .i64 sc :: .int .i64 sd :: .int .i64 dl :: .bool ca :: .bool cb :: .bool cc :: .bool cd :: .bool ce :: .bool cf :: is lv)), (2, .int .i64 1)]) Tryz.func105 rfl Tryz.ntmps105 Tryz.results105 rfl (by kernel_rfl) rfl ?_
  (repeat refine PW.seq ?_); refine PW.rg rfl fun K hK => ?_; simp (disch:=omega) only [go_sem, hall]; refine hK _ _ ?_; clear hK K
  (repeat refine PW.seq ?_)
  refine PW.view (Vs.place 56) (PW.view (Vs.place 62) ?_)
  (repeat refine PW.seq ?_); refine PW.drawh ([H.length + 2, H.length + 3]) ([(7, H.length + 2), (8, H.length + 3)]) mix (by kernel_rfl) (by simp <;> omega) fun K hK => ?_
  simp (disch:=omega) only [go_sem, ↓reduceIte]
  refine hK _ _ ?_; clear hK K
  (repeat refine PW.seq ?_); refine PW.rg rfl fun K hK => ?_; simp (disch:=omega) only [go_sem, ↓reduceIte]; refine hK _ _ ?_; clear hK K
  (repeat refine PW.seq ?_); refine PW.cond (t := _) rfl (fun h => ?_) (fun h => ?_)
  · have hu : ub = false := by simpa using h
    subst hu
    (repeat refine PW.seq ?_); refine PW.rg rfl fun K hK => ?_; simp (disch:=omega) only [go_sem, ↓reduceIte, ↓eqV2]
    (repeat' ((first | refine VO_cond (fun h => ?_) (fun h => ?_) | refine VOd_cond (fun h => ?_) (fun h => ?_) | refine VOg_cond (fun h => ?_) (fun h => ?_) | refine VOh_cond (fun h => ?_) (fun h => ?_) | refine VOi_cond (fun h => ?_) (fun h => ?_) | refine And.intro (fun h => ?_) (fun h => ?_)) <;> (try simp only [Bool.not_eq_true', Bool.not_eq_false', decide_eq_true_eq, decide_eq_false_iff_not] at h) <;> simp (disch:=omega) only [go_sem, ↓eqI2, h]))
    all_goals (refine hK _ _ ?_; (refine PW.ret ⟨_, rfl, ?_⟩; first | refine .inl ⟨?_, rfl⟩ | refine Fin.base (.id' ?_ (.bool _)) | refine Fin.base (.id' ?_ (.int _ _))); clear hK q1 q2 fo hall; subst hr; (simp_all [slot] <;> first | rfl | omega | (rw [Bool.eq_iff_iff]; simp; done) | (rw [Bool.eq_iff_iff]; simp; omega)))
  have hu : ub = true := by simpa using h
  subst hu
  refine PW.skip ?_
  (repeat refine PW.seq ?_)
  refine PW.rgv (P := Tryz.prog) [3, 4, 7, 8] 59 (.bool (!(r1 && (r2 && ((decide (sc = 0) || decide (sc = 1)) && (decide (sd = 0) || decide (sd = 1))))))) ?_ ?_ ?_
  · rfl
  · cases r1 <;> cases r2 <;> simp (disch:=omega) only [go_sem, ↓reduceIte] <;> (repeat' (first | ((first | refine VO_cond (fun h => ?_) (fun h => ?_) | refine VOd_cond (fun h => ?_) (fun h => ?_) | refine VOg_cond (fun h => ?_) (fun h => ?_) | refine VOh_cond (fun h => ?_) (fun h => ?_) | refine VOi_cond (fun h => ?_) (fun h => ?_) | refine And.intro (fun h => ?_) (fun h => ?_)) <;> (try simp only [Bool.not_eq_true', Bool.not_eq_false', decide_eq_true_eq, decide_eq_false_iff_not] at h) <;> simp (disch:=omega) only [go_sem, ↓reduceIte, h]) | (refine VCx.call (q1 _) rfl ?_; simp (disch:=omega) only [go_sem, ↓reduceIte]) | (refine VCx.call (q2 _) rfl ?_; simp (disch:=omega) only [go_sem, ↓reduceIte]) | (refine VCy.call (q1 _) rfl ?_; simp (disch:=omega) only [go_sem, ↓reduceIte, reduceCtorEq, pappend, plen]) | (refine VCy.call (q2 _) rfl ?_; simp (disch:=omega) only [go_sem, ↓reduceIte, reduceCtorEq, pappend, plen]) | (refine VCz.call (fun _ => q1 _) rfl ?_; simp (disch:=omega) only [go_sem, ↓reduceIte, reduceCtorEq, pappend, plen]) | (refine VCz.call (fun _ => q2 _) rfl ?_; simp (disch:=omega) only [go_sem, ↓reduceIte, reduceCtorEq, pappend, plen]) | (refine VCk.call (fun _ _ => q1 _) rfl ?_; simp (disch:=omega) only [go_sem, ↓reduceIte, reduceCtorEq, pappend, plen]) | (refine VCk.call (fun _ _ => q2 _) rfl ?_; simp (disch:=omega) only [go_sem, ↓reduceIte, reduceCtorEq, pappend, plen]) | (refine VCj.now (q1 _) rfl ?_; simp (disch:=omega) only [go_sem, ↓reduceIte, reduceCtorEq, pappend, plen]) | (refine VCj.now (q2 _) rfl ?_; simp (disch:=omega) only [go_sem, ↓reduceIte, reduceCtorEq, pappend, plen])))
    all_goals (clear q1 q2 fo hall hr; (simp_all [] <;> first | rfl | omega | (rw [Bool.eq_iff_iff]; simp; done) | (rw [Bool.eq_iff_iff]; simp; omega)))
  (repeat refine PW.seq ?_); refine PW.cond (t := _) rfl (fun h => ?_) (fun h => ?_)
  · have hb : (r1 && (r2 && ((decide (sc = 0) || decide (sc = 1)) && (decide (sd = 0) || decide (sd = 1))))) = false := by simpa only [Bool.not_eq_true'] using h
    (repeat refine PW.seq ?_); refine PW.rg rfl fun K hK => ?_; simp (disch:=omega) only [go_sem]; refine hK _ _ ?_; clear hK K
    (refine PW.ret ⟨_, rfl, ?_⟩; first | refine .inl ⟨?_, rfl⟩ | refine Fin.base (.id' ?_ (.bool _)) | refine Fin.base (.id' ?_ (.int _ _)))
    clear q1 q2 fo hall
    subst hr
    cases r1 <;> cases r2 <;> simp_all [slot]
  have hb : (r1 && (r2 && ((decide (sc = 0) || decide (sc = 1)) && (decide (sd = 0) || decide (sd = 1))))) = true := by simpa only [Bool.not_eq_false'] using h
  refine PW.skip ?_
  (repeat refine PW.seq ?_)
  refine PW.rgv (P := Tryz.prog) [3, 4, 7, 8] 73 (.bool (!fp && (!(decide (vg = 0) && decide (vh = 0)) || !decide (sd = 0)))) ?_ ?_ ?_
  · rfl
  · simp (disch:=omega) only [go_sem, ↓reduceIte]
    (repeat' ((first | refine VO_cond (fun h => ?_) (fun h => ?_) | refine VOd_cond (fun h => ?_) (fun h => ?_) | refine VOg_cond (fun h => ?_) (fun h => ?_) | refine VOh_cond (fun h => ?_) (fun h => ?_) | refine VOi_cond (fun h => ?_) (fun h => ?_) | refine And.intro (fun h => ?_) (fun h => ?_)) <;> (try simp only [Bool.not_eq_true', Bool.not_eq_false'] at h) <;> simp (disch:=omega) only [go_sem, ↓reduceIte, ↓neV, h]))
    all_goals (clear q1 q2 fo hall hr hb; (simp_all [] <;> first | rfl | omega | (rw [Bool.eq_iff_iff]; simp; done) | (rw [Bool.eq_iff_iff]; simp; omega)))
  (repeat refine PW.seq ?_); refine PW.cond (t := _) rfl (fun h => ?_) (fun h => ?_)
  · (repeat refine PW.seq ?_); refine PW.rg rfl fun K hK => ?_; simp (disch:=omega) only [go_sem]; refine hK _ _ ?_; clear hK K
    (refine PW.ret ⟨_, rfl, ?_⟩; first | refine .inl ⟨?_, rfl⟩ | refine Fin.base (.id' ?_ (.bool _)) | refine Fin.base (.id' ?_ (.int _ _)))
    clear q1 q2 fo hall
    subst hr
    cases r1 <;> cases r2 <;> cases fp <;> simp_all [slot] <;> omega
  refine PW.skip ?_
  (repeat refine PW.seq ?_); refine PW.rg rfl fun K hK => ?_
  cases ff <;> simp (disch:=omega) only [go_sem, ↓reduceIte] <;> (repeat' (first | ((first | refine VO_cond (fun h => ?_) (fun h => ?_) | refine VOd_cond (fun h => ?_) (fun h => ?_) | refine VOg_cond (fun h => ?_) (fun h => ?_) | refine VOh_cond (fun h => ?_) (fun h => ?_) | refine VOi_cond (fun h => ?_) (fun h => ?_) | refine And.intro (fun h => ?_) (fun h => ?_)) <;> (try simp only [Bool.not_eq_true', Bool.not_eq_false'] at h) <;> simp (disch:=omega) only [go_sem, h]) | (refine VCx.call (fo _) rfl ?_; simp (disch:=omega) only [go_sem, ↓reduceIte]) | (refine VCy.call (fo _) rfl ?_; simp (disch:=omega) only [go_sem, ↓reduceIte, reduceCtorEq, pappend, plen]) | (refine VCz.call (fun _ => fo _) rfl ?_; simp (disch:=omega) only [go_sem, ↓reduceIte, reduceCtorEq, pappend, plen]) | (refine VCk.call (fun _ _ => fo _) rfl ?_; simp (disch:=omega) only [go_sem, ↓reduceIte, reduceCtorEq, pappend, plen]) | (refine VCj.now (fo _) rfl ?_; simp (disch:=omega) only [go_sem, ↓reduceIte, reduceCtorEq, pappend, plen])))
  all_goals (refine hK _ _ ?_; (refine PW.ret ⟨_, rfl, ?_⟩; first | refine .inl ⟨?_, rfl⟩ | refine Fin.base (.id' ?_ (.bool _)) | refine Fin.base (.id' ?_ (.int _ _))); clear hK q1 q2 fo hall; subst hr; cases r1 <;> cases r2 <;> simp_all [slot] <;> first | omega | (rw [Bool.eq_iff_iff]; simp; done) | (rw [Bool.eq_iff_iff]; simp; omega))
end Go.Proofs.YthmladiijdlgkaaGreat.Sc
