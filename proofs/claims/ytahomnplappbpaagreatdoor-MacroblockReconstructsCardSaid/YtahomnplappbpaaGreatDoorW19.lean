/-
  Parts of the proof, put together in one text. No condition.
-/
import Derived.Test.YtahomnplappbpaaGreatDoorW18
namespace Go.Proofs.YtahomnplappbpaaGreatDoor.Sc
set_option linter.all false
set_option linter.unusedVariables false
set_option linter.unusedSimpArgs false
open Pm Ty Go.RowKit

set_option maxHeartbeats 3200000 in
set_option maxRecDepth 10000 in
theorem dir0_ref (c : Cx) (m : Mb) (H : Heap) : CallOk Tryz.prog 169 [.agg (cxc c), .agg (mbc m), .int .i64 0] H (.bool (dirS c m.fp m.ua m.va m.vb m.vc m.vd m.sa m.sb)) H := by
  obtain ⟨k, ua, ub, fp, fd, va, vb, vc, vd, ve, vf, vg, vh, sa, sb, sc, sd, dl, ca, cb, cc, cd, ce, cf, lv⟩ := m
  simp only [mbc]
  have hall := is_cell lv
  generalize hr : dirS c fp ua va vb vc vd sa sb = r
  simp only [dirS] at hr
  have fo := fun H => fcx_ref c H
  generalize fcx c = ff at fo hr
  obtain ⟨t, s, ii, n⟩ := c
  have q1 := fun H => vrg_ref va vb H
  have q2 := fun H => vrg_ref vc vd H
  generalize vrg va vb = r1 at q1 hr
  generalize vrg vc vd = r2 at q2 hr
  refine CallOk.body (F0 := [(0, .agg [.int .i64 t, .int .i64 s, .bool ii, .bool n]), (1, .agg (.int .i64 k :: .bool ua :: .bool ub :: .bool fp :: .bool fd :: .int .i64 va :: .int .i64 vb :: .int .i64 vc :: .int .i64 vd :: .int .i64 ve :: .int .i64 vf :: .int .i64 vg :: .int .i64 vh :: .int .i64 sa :: .int .i64 sb :: .int .i64 sc :: .int .i64 sd :: .int .i64 dl :: .bool ca :: .bool cb :: .bool cc :: .bool cd :: .bool ce :: .bool cf :: is lv)), (2, .int .i64 0)]) Tryz.func169 rfl Tryz.ntmps169 Tryz.results169 rfl (by kernel_rfl) rfl ?_
  (repeat refine PW.seq ?_); refine PW.rg rfl fun K hK => ?_; simp (disch := omega) only [go_sem, ↓reduceIte, reduceCtorEq, pappend, plen, hall]; refine hK _ _ ?_; clear hK K
  (repeat refine PW.seq ?_)
  refine PW.view (Vs.place 42) (PW.view (Vs.place 44) ?_)
  (repeat refine PW.seq ?_); refine PW.drawh ([H.length + 2, H.length + 3]) ([(7, H.length + 2), (8, H.length + 3)]) mix (by kernel_rfl) (by simp <;> omega) fun K hK => ?_
  simp (disch := omega) only [go_sem, ↓reduceIte, reduceCtorEq, pappend, plen]
  refine hK _ _ ?_; clear hK K
  (repeat refine PW.seq ?_); refine PW.rg rfl fun K hK => ?_; simp (disch := omega) only [go_sem, ↓reduceIte, reduceCtorEq, pappend, plen]; refine hK _ _ ?_; clear hK K
  (repeat refine PW.seq ?_); refine PW.cond (t := _) rfl (fun h => ?_) (fun h => ?_)
  · have hu : ua = false := by simpa using h
    subst hu
    (repeat refine PW.seq ?_); refine PW.rg rfl fun K hK => ?_; simp (disch := omega) only [go_sem, ↓reduceIte, reduceCtorEq, pappend, plen, ↓eqV2, ↓neV, ↓eqI2]
    (repeat' ((first | refine VO_cond ?_ ?_ | refine VOd_cond ?_ ?_ | refine VOg_cond ?_ ?_ | refine VOh_cond ?_ ?_ | refine VOi_cond ?_ ?_ | refine And.intro ?_ ?_) <;> intro h <;> (try simp only [Bool.not_eq_true', Bool.not_eq_false', decide_eq_true_eq, decide_eq_false_iff_not] at h) <;> simp (disch := omega) only [go_sem, ↓reduceIte, reduceCtorEq, pappend, plen, ↓eqV2, ↓neV, ↓eqI2, h]))
    all_goals (refine hK _ _ ?_; (refine PW.ret ⟨_, rfl, ?_⟩; first | refine .inl ⟨?_, rfl⟩ | refine Fin.base (.id' ?_ (.bool _)) | refine Fin.base (.id' ?_ (.int _ _))); clear hK q1 q2 fo hall; subst hr; (simp_all [slot, Nat.beq] <;> first | rfl | omega | (rw [Bool.eq_iff_iff]; simp; done) | (rw [Bool.eq_iff_iff]; simp; omega)))
  have hu : ua = true := by simpa using h
  subst hu
  refine PW.skip ?_
  (repeat refine PW.seq ?_)
  refine PW.rgv (P := Tryz.prog) [3, 4, 7, 8] 59 (.bool (!(r1 && (r2 && ((decide (sa = 0) || decide (sa = 1)) && (decide (sb = 0) || decide (sb = 1))))))) ?_ ?_ ?_
  · rfl
  · cases r1 <;> cases r2 <;> simp (disch := omega) only [go_sem, ↓reduceIte, reduceCtorEq, pappend, plen] <;> (repeat' (first | ((first | refine VO_cond ?_ ?_ | refine VOd_cond ?_ ?_ | refine VOg_cond ?_ ?_ | refine VOh_cond ?_ ?_ | refine VOi_cond ?_ ?_ | refine And.intro ?_ ?_) <;> intro h <;> (try simp only [Bool.not_eq_true', Bool.not_eq_false', decide_eq_true_eq, decide_eq_false_iff_not] at h) <;> simp (disch := omega) only [go_sem, ↓reduceIte, reduceCtorEq, pappend, plen, h]) | ((first | refine VCx.call (q1 _) rfl ?_ | refine VCx.call (q2 _) rfl ?_ | refine VCy.call (q1 _) rfl ?_ | refine VCy.call (q2 _) rfl ?_ | refine VCz.call (fun _ => q1 _) rfl ?_ | refine VCz.call (fun _ => q2 _) rfl ?_ | refine VCk.call (fun _ _ => q1 _) rfl ?_ | refine VCk.call (fun _ _ => q2 _) rfl ?_ | refine VCj.now (q1 _) rfl ?_ | refine VCj.now (q2 _) rfl ?_); simp (disch := omega) only [go_sem, ↓reduceIte, reduceCtorEq, pappend, plen])))
    all_goals (clear q1 q2 fo hall hr; (simp_all [slot, Nat.beq] <;> first | rfl | omega | (rw [Bool.eq_iff_iff]; simp; done) | (rw [Bool.eq_iff_iff]; simp; omega)))
  (repeat refine PW.seq ?_); refine PW.cond (t := _) rfl (fun h => ?_) (fun h => ?_)
  · have hb : (r1 && (r2 && ((decide (sa = 0) || decide (sa = 1)) && (decide (sb = 0) || decide (sb = 1))))) = false := by simpa only [Bool.not_eq_true'] using h
    (repeat refine PW.seq ?_); refine PW.rg rfl fun K hK => ?_; simp (disch := omega) only [go_sem, ↓reduceIte, reduceCtorEq, pappend, plen]; refine hK _ _ ?_; clear hK K
    (refine PW.ret ⟨_, rfl, ?_⟩; first | refine .inl ⟨?_, rfl⟩ | refine Fin.base (.id' ?_ (.bool _)) | refine Fin.base (.id' ?_ (.int _ _)))
    clear q1 q2 fo hall
    subst hr
    cases r1 <;> cases r2 <;> simp_all [slot, Nat.beq]
  have hb : (r1 && (r2 && ((decide (sa = 0) || decide (sa = 1)) && (decide (sb = 0) || decide (sb = 1))))) = true := by simpa only [Bool.not_eq_false'] using h
  refine PW.skip ?_
  (repeat refine PW.seq ?_)
  refine PW.rgv (P := Tryz.prog) [3, 4, 7, 8] 73 (.bool (!fp && (!(decide (vc = 0) && decide (vd = 0)) || !decide (sb = 0)))) ?_ ?_ ?_
  · rfl
  · simp (disch := omega) only [go_sem, ↓reduceIte, reduceCtorEq, pappend, plen, ↓eqV2, ↓neV, ↓eqI2]
    (repeat' ((first | refine VO_cond ?_ ?_ | refine VOd_cond ?_ ?_ | refine VOg_cond ?_ ?_ | refine VOh_cond ?_ ?_ | refine VOi_cond ?_ ?_ | refine And.intro ?_ ?_) <;> intro h <;> (try simp only [Bool.not_eq_true', Bool.not_eq_false', decide_eq_true_eq, decide_eq_false_iff_not] at h) <;> simp (disch := omega) only [go_sem, ↓reduceIte, reduceCtorEq, pappend, plen, ↓eqV2, ↓neV, ↓eqI2, h]))
    all_goals (clear q1 q2 fo hall hr hb; (simp_all [slot, Nat.beq] <;> first | rfl | omega | (rw [Bool.eq_iff_iff]; simp; done) | (rw [Bool.eq_iff_iff]; simp; omega)))
  (repeat refine PW.seq ?_); refine PW.cond (t := _) rfl (fun h => ?_) (fun h => ?_)
  · (repeat refine PW.seq ?_); refine PW.rg rfl fun K hK => ?_; simp (disch := omega) only [go_sem, ↓reduceIte, reduceCtorEq, pappend, plen]; refine hK _ _ ?_; clear hK K
    (refine PW.ret ⟨_, rfl, ?_⟩; first | refine .inl ⟨?_, rfl⟩ | refine Fin.base (.id' ?_ (.bool _)) | refine Fin.base (.id' ?_ (.int _ _)))
    clear q1 q2 fo hall
    subst hr
    cases r1 <;> cases r2 <;> cases fp <;> simp_all [slot, Nat.beq] <;> omega
  refine PW.skip ?_
  (repeat refine PW.seq ?_); refine PW.rg rfl fun K hK => ?_
  cases ff <;> simp (disch := omega) only [go_sem, ↓reduceIte, reduceCtorEq, pappend, plen] <;> (repeat' (first | ((first | refine VO_cond ?_ ?_ | refine VOd_cond ?_ ?_ | refine VOg_cond ?_ ?_ | refine VOh_cond ?_ ?_ | refine VOi_cond ?_ ?_ | refine And.intro ?_ ?_) <;> intro h <;> (try simp only [Bool.not_eq_true', Bool.not_eq_false', decide_eq_true_eq, decide_eq_false_iff_not] at h) <;> simp (disch := omega) only [go_sem, ↓reduceIte, reduceCtorEq, pappend, plen, h]) | ((first | refine VCx.call (fo _) rfl ?_ | refine VCy.call (fo _) rfl ?_ | refine VCz.call (fun _ => fo _) rfl ?_ | refine VCk.call (fun _ _ => fo _) rfl ?_ | refine VCj.now (fo _) rfl ?_); simp (disch := omega) only [go_sem, ↓reduceIte, reduceCtorEq, pappend, plen])))
  all_goals (refine hK _ _ ?_; (refine PW.ret ⟨_, rfl, ?_⟩; first | refine .inl ⟨?_, rfl⟩ | refine Fin.base (.id' ?_ (.bool _)) | refine Fin.base (.id' ?_ (.int _ _))); clear hK q1 q2 fo hall; subst hr; cases r1 <;> cases r2 <;> simp_all [slot, Nat.beq] <;> first | omega | (rw [Bool.eq_iff_iff]; simp; done) | (rw [Bool.eq_iff_iff]; simp; omega))

set_option maxHeartbeats 3200000 in
set_option maxRecDepth 10000 in
theorem dir1_ref (c : Cx) (m : Mb) (H : Heap) : CallOk Tryz.prog 169 [.agg (cxc c), .agg (mbc m), .int .i64 1] H (.bool (dirS c m.fp m.ub m.ve m.vf m.vg m.vh m.sc m.sd)) H := by
  obtain ⟨k, ua, ub, fp, fd, va, vb, vc, vd, ve, vf, vg, vh, sa, sb, sc, sd, dl, ca, cb, cc, cd, ce, cf, lv⟩ := m
  simp only [mbc]
  have hall := is_cell lv
  generalize hr : dirS c fp ub ve vf vg vh sc sd = r
  simp only [dirS] at hr
  have fo := fun H => fcx_ref c H
  generalize fcx c = ff at fo hr
  obtain ⟨t, s, ii, n⟩ := c
  have q1 := fun H => vrg_ref ve vf H
  have q2 := fun H => vrg_ref vg vh H
  generalize vrg ve vf = r1 at q1 hr
  generalize vrg vg vh = r2 at q2 hr
  refine CallOk.body (F0 := [(0, .agg [.int .i64 t, .int .i64 s, .bool ii, .bool n]), (1, .agg (.int .i64 k :: .bool ua :: .bool ub :: .bool fp :: .bool fd :: .int .i64 va :: .int .i64 vb :: .int .i64 vc :: .int .i64 vd :: .int .i64 ve :: .int .i64 vf :: .int .i64 vg :: .int .i64 vh :: .int .i64 sa :: .int .i64 sb :: .int .i64 sc :: .int .i64 sd :: .int .i64 dl :: .bool ca :: .bool cb :: .bool cc :: .bool cd :: .bool ce :: .bool cf :: is lv)), (2, .int .i64 1)]) Tryz.func169 rfl Tryz.ntmps169 Tryz.results169 rfl (by kernel_rfl) rfl ?_
  (repeat refine PW.seq ?_); refine PW.rg rfl fun K hK => ?_; simp (disch := omega) only [go_sem, ↓reduceIte, reduceCtorEq, pappend, plen, hall]; refine hK _ _ ?_; clear hK K
  (repeat refine PW.seq ?_)
  refine PW.view (Vs.place 42) (PW.view (Vs.place 44) ?_)
  (repeat refine PW.seq ?_); refine PW.drawh ([H.length + 2, H.length + 3]) ([(7, H.length + 2), (8, H.length + 3)]) mix (by kernel_rfl) (by simp <;> omega) fun K hK => ?_
  simp (disch := omega) only [go_sem, ↓reduceIte, reduceCtorEq, pappend, plen]
  refine hK _ _ ?_; clear hK K
  (repeat refine PW.seq ?_); refine PW.rg rfl fun K hK => ?_; simp (disch := omega) only [go_sem, ↓reduceIte, reduceCtorEq, pappend, plen]; refine hK _ _ ?_; clear hK K
  (repeat refine PW.seq ?_); refine PW.cond (t := _) rfl (fun h => ?_) (fun h => ?_)
  · have hu : ub = false := by simpa using h
    subst hu
    (repeat refine PW.seq ?_); refine PW.rg rfl fun K hK => ?_; simp (disch := omega) only [go_sem, ↓reduceIte, reduceCtorEq, pappend, plen, ↓eqV2, ↓neV, ↓eqI2]
    (repeat' ((first | refine VO_cond ?_ ?_ | refine VOd_cond ?_ ?_ | refine VOg_cond ?_ ?_ | refine VOh_cond ?_ ?_ | refine VOi_cond ?_ ?_ | refine And.intro ?_ ?_) <;> intro h <;> (try simp only [Bool.not_eq_true', Bool.not_eq_false', decide_eq_true_eq, decide_eq_false_iff_not] at h) <;> simp (disch := omega) only [go_sem, ↓reduceIte, reduceCtorEq, pappend, plen, ↓eqV2, ↓neV, ↓eqI2, h]))
    all_goals (refine hK _ _ ?_; (refine PW.ret ⟨_, rfl, ?_⟩; first | refine .inl ⟨?_, rfl⟩ | refine Fin.base (.id' ?_ (.bool _)) | refine Fin.base (.id' ?_ (.int _ _))); clear hK q1 q2 fo hall; subst hr; (simp_all [slot, Nat.beq] <;> first | rfl | omega | (rw [Bool.eq_iff_iff]; simp; done) | (rw [Bool.eq_iff_iff]; simp; omega)))
  have hu : ub = true := by simpa using h
  subst hu
  refine PW.skip ?_
  (repeat refine PW.seq ?_)
  refine PW.rgv (P := Tryz.prog) [3, 4, 7, 8] 59 (.bool (!(r1 && (r2 && ((decide (sc = 0) || decide (sc = 1)) && (decide (sd = 0) || decide (sd = 1))))))) ?_ ?_ ?_
  · rfl
  · cases r1 <;> cases r2 <;> simp (disch := omega) only [go_sem, ↓reduceIte, reduceCtorEq, pappend, plen] <;> (repeat' (first | ((first | refine VO_cond ?_ ?_ | refine VOd_cond ?_ ?_ | refine VOg_cond ?_ ?_ | refine VOh_cond ?_ ?_ | refine VOi_cond ?_ ?_ | refine And.intro ?_ ?_) <;> intro h <;> (try simp only [Bool.not_eq_true', Bool.not_eq_false', decide_eq_true_eq, decide_eq_false_iff_not] at h) <;> simp (disch := omega) only [go_sem, ↓reduceIte, reduceCtorEq, pappend, plen, h]) | ((first | refine VCx.call (q1 _) rfl ?_ | refine VCx.call (q2 _) rfl ?_ | refine VCy.call (q1 _) rfl ?_ | refine VCy.call (q2 _) rfl ?_ | refine VCz.call (fun _ => q1 _) rfl ?_ | refine VCz.call (fun _ => q2 _) rfl ?_ | refine VCk.call (fun _ _ => q1 _) rfl ?_ | refine VCk.call (fun _ _ => q2 _) rfl ?_ | refine VCj.now (q1 _) rfl ?_ | refine VCj.now (q2 _) rfl ?_); simp (disch := omega) only [go_sem, ↓reduceIte, reduceCtorEq, pappend, plen])))
    all_goals (clear q1 q2 fo hall hr; (simp_all [slot, Nat.beq] <;> first | rfl | omega | (rw [Bool.eq_iff_iff]; simp; done) | (rw [Bool.eq_iff_iff]; simp; omega)))
  (repeat refine PW.seq ?_); refine PW.cond (t := _) rfl (fun h => ?_) (fun h => ?_)
  · have hb : (r1 && (r2 && ((decide (sc = 0) || decide (sc = 1)) && (decide (sd = 0) || decide (sd = 1))))) = false := by simpa only [Bool.not_eq_true'] using h
    (repeat refine PW.seq ?_); refine PW.rg rfl fun K hK => ?_; simp (disch := omega) only [go_sem, ↓reduceIte, reduceCtorEq, pappend, plen]; refine hK _ _ ?_; clear hK K
    (refine PW.ret ⟨_, rfl, ?_⟩; first | refine .inl ⟨?_, rfl⟩ | refine Fin.base (.id' ?_ (.bool _)) | refine Fin.base (.id' ?_ (.int _ _)))
    clear q1 q2 fo hall
    subst hr
    cases r1 <;> cases r2 <;> simp_all [slot, Nat.beq]
  have hb : (r1 && (r2 && ((decide (sc = 0) || decide (sc = 1)) && (decide (sd = 0) || decide (sd = 1))))) = true := by simpa only [Bool.not_eq_false'] using h
  refine PW.skip ?_
  (repeat refine PW.seq ?_)
  refine PW.rgv (P := Tryz.prog) [3, 4, 7, 8] 73 (.bool (!fp && (!(decide (vg = 0) && decide (vh = 0)) || !decide (sd = 0)))) ?_ ?_ ?_
  · rfl
  · simp (disch := omega) only [go_sem, ↓reduceIte, reduceCtorEq, pappend, plen, ↓eqV2, ↓neV, ↓eqI2]
    (repeat' ((first | refine VO_cond ?_ ?_ | refine VOd_cond ?_ ?_ | refine VOg_cond ?_ ?_ | refine VOh_cond ?_ ?_ | refine VOi_cond ?_ ?_ | refine And.intro ?_ ?_) <;> intro h <;> (try simp only [Bool.not_eq_true', Bool.not_eq_false', decide_eq_true_eq, decide_eq_false_iff_not] at h) <;> simp (disch := omega) only [go_sem, ↓reduceIte, reduceCtorEq, pappend, plen, ↓eqV2, ↓neV, ↓eqI2, h]))
    all_goals (clear q1 q2 fo hall hr hb; (simp_all [slot, Nat.beq] <;> first | rfl | omega | (rw [Bool.eq_iff_iff]; simp; done) | (rw [Bool.eq_iff_iff]; simp; omega)))
  (repeat refine PW.seq ?_); refine PW.cond (t := _) rfl (fun h => ?_) (fun h => ?_)
  · (repeat refine PW.seq ?_); refine PW.rg rfl fun K hK => ?_; simp (disch := omega) only [go_sem, ↓reduceIte, reduceCtorEq, pappend, plen]; refine hK _ _ ?_; clear hK K
    (refine PW.ret ⟨_, rfl, ?_⟩; first | refine .inl ⟨?_, rfl⟩ | refine Fin.base (.id' ?_ (.bool _)) | refine Fin.base (.id' ?_ (.int _ _)))
    clear q1 q2 fo hall
    subst hr
    cases r1 <;> cases r2 <;> cases fp <;> simp_all [slot, Nat.beq] <;> omega
  refine PW.skip ?_
  (repeat refine PW.seq ?_); refine PW.rg rfl fun K hK => ?_
  cases ff <;> simp (disch := omega) only [go_sem, ↓reduceIte, reduceCtorEq, pappend, plen] <;> (repeat' (first | ((first | refine VO_cond ?_ ?_ | refine VOd_cond ?_ ?_ | refine VOg_cond ?_ ?_ | refine VOh_cond ?_ ?_ | refine VOi_cond ?_ ?_ | refine And.intro ?_ ?_) <;> intro h <;> (try simp only [Bool.not_eq_true', Bool.not_eq_false', decide_eq_true_eq, decide_eq_false_iff_not] at h) <;> simp (disch := omega) only [go_sem, ↓reduceIte, reduceCtorEq, pappend, plen, h]) | ((first | refine VCx.call (fo _) rfl ?_ | refine VCy.call (fo _) rfl ?_ | refine VCz.call (fun _ => fo _) rfl ?_ | refine VCk.call (fun _ _ => fo _) rfl ?_ | refine VCj.now (fo _) rfl ?_); simp (disch := omega) only [go_sem, ↓reduceIte, reduceCtorEq, pappend, plen])))
  all_goals (refine hK _ _ ?_; (refine PW.ret ⟨_, rfl, ?_⟩; first | refine .inl ⟨?_, rfl⟩ | refine Fin.base (.id' ?_ (.bool _)) | refine Fin.base (.id' ?_ (.int _ _))); clear hK q1 q2 fo hall; subst hr; cases r1 <;> cases r2 <;> simp_all [slot, Nat.beq] <;> first | omega | (rw [Bool.eq_iff_iff]; simp; done) | (rw [Bool.eq_iff_iff]; simp; omega))

end Go.Proofs.YtahomnplappbpaaGreatDoor.Sc

namespace Go.Proofs.YtahomnplappbpaaGreatDoor.Sc
set_option linter.all false
set_option linter.unusedVariables false
set_option linter.unusedSimpArgs false
open Pm Ty Go.RowKit

def useB (c : Cx) (m : Mb) : Bool := (decide (c.t = 2) && !(m.ua && !m.ub)) || (!m.ua && !m.ub)
def d0S (c : Cx) (m : Mb) : Bool := dirS c m.fp m.ua m.va m.vb m.vc m.vd m.sa m.sb
def d1S (c : Cx) (m : Mb) : Bool := dirS c m.fp m.ub m.ve m.vf m.vg m.vh m.sc m.sd
def fprd (c : Cx) (m : Mb) : Bool := !(useB c m) && (!(m.fp && !(bcx c)) && (d0S c m && d1S c m))

set_option maxHeartbeats 3200000 in
set_option maxRecDepth 10000 in
theorem fprd_ok (c : Cx) (m : Mb) (i : Nat) (H : Heap) (hi : H[i]? = some (mB m)) : CallOk Tryz.prog 152 [.agg (cxc c), .ptr i 0 0] H (.bool (fprd c m)) H := by
  have f0 := fun K => fdir0_ok c m m.ua i (H ++ K) (get_ext hi)
  have f1 := fun K => fdir1_ok c m m.ub i (H ++ K) (get_ext hi)
  have bo := fun H => bcx_ok c H
  have hr : fprd c m = (!(useB c m) && (!(m.fp && !(bcx c)) && (d0S c m && d1S c m))) := rfl
  have hub : useB c m = ((decide (c.t = 2) && !(m.ua && !m.ub)) || (!m.ua && !m.ub)) := rfl
  change ∀ K, CallOk _ _ _ _ (.bool (d0S c m)) _ at f0
  change ∀ K, CallOk _ _ _ _ (.bool (d1S c m)) _ at f1
  generalize fprd c m = r at hr ⊢
  generalize d0S c m = e0 at f0 hr
  generalize d1S c m = e1 at f1 hr
  generalize useB c m = ux at hub hr
  generalize bcx c = bk at bo hr
  obtain ⟨k, ua, ub, fp, fd, va, vb, vc, vd, ve, vf, vg, vh, sa, sb, sc, sd, dl, ca, cb, cc, cd, ce, cf, lv⟩ := m
  obtain ⟨t, s, ii, n⟩ := c
  simp only [mB, mbc] at hi hr hub f0 f1
  have hx := fun K => get_ext (K := K) hi
  refine CallOk.body (F0 := [(0, .agg [.int .i64 t, .int .i64 s, .bool ii, .bool n]), (1, .ptr i 0 0)]) Tryz.func152 rfl Tryz.ntmps152 Tryz.results152 rfl (by kernel_rfl) rfl ?_
  (repeat refine PW.seq ?_); refine PW.rg rfl fun K hK => ?_; simp (disch := omega) only [go_sem, ↓reduceIte, reduceCtorEq, pappend, plen]; refine hK _ _ ?_; clear hK K
  (repeat refine PW.seq ?_)
  refine PW.rgv (P := Tryz.prog) [1, 2] 25 (.bool ux) ?_ ?_ ?_
  · rfl
  · simp (disch := omega) only [go_sem, ↓reduceIte, reduceCtorEq, pappend, plen, hx]
    (repeat' ((first | refine VO_cond ?_ ?_ | refine VOd_cond ?_ ?_ | refine VOg_cond ?_ ?_ | refine VOh_cond ?_ ?_ | refine VOi_cond ?_ ?_ | refine And.intro ?_ ?_) <;> intro h <;> (try simp only [Bool.not_eq_true', Bool.not_eq_false', decide_eq_true_eq, decide_eq_false_iff_not] at h) <;> simp (disch := omega) only [go_sem, ↓reduceIte, reduceCtorEq, pappend, plen, hx, h]))
    all_goals (clear f0 f1 bo hi hx hr; cases ua <;> cases ub <;> (simp_all [slot, Nat.beq] <;> first | rfl | omega | (rw [Bool.eq_iff_iff]; simp; done) | (rw [Bool.eq_iff_iff]; simp; omega)))
  (repeat refine PW.seq ?_); refine PW.cond (t := _) rfl (fun h => ?_) (fun h => ?_)
  · subst h
    (repeat refine PW.seq ?_); refine PW.rg rfl fun K hK => ?_; simp (disch := omega) only [go_sem, ↓reduceIte, reduceCtorEq, pappend, plen]; refine hK _ _ ?_; clear hK K
    (refine PW.ret ⟨_, rfl, ?_⟩; first | refine .inl ⟨?_, rfl⟩ | refine Fin.base (.id' ?_ (.bool _)) | refine Fin.base (.id' ?_ (.int _ _)))
    rw [hr]; rfl
  subst h
  refine PW.skip ?_
  (repeat refine PW.seq ?_)
  refine PW.rgv (P := Tryz.prog) [1, 2] 34 (.bool (fp && !bk)) ?_ ?_ ?_
  · rfl
  · simp (disch := omega) only [go_sem, ↓reduceIte, reduceCtorEq, pappend, plen, hx]
    (repeat' (first | ((first | refine VO_cond ?_ ?_ | refine VOd_cond ?_ ?_ | refine VOg_cond ?_ ?_ | refine VOh_cond ?_ ?_ | refine VOi_cond ?_ ?_ | refine And.intro ?_ ?_) <;> intro h <;> (try simp only [Bool.not_eq_true', Bool.not_eq_false', decide_eq_true_eq, decide_eq_false_iff_not] at h) <;> simp (disch := omega) only [go_sem, ↓reduceIte, reduceCtorEq, pappend, plen, hx, h]) | ((first | refine VCx.call (bo _) rfl ?_ | refine VCy.call (bo _) rfl ?_ | refine VCz.call (fun _ => bo _) rfl ?_ | refine VCk.call (fun _ _ => bo _) rfl ?_ | refine VCj.now (bo _) rfl ?_); simp (disch := omega) only [go_sem, ↓reduceIte, reduceCtorEq, pappend, plen, hx])))
    all_goals (clear f0 f1 bo hi hx hr; (simp_all [slot, Nat.beq] <;> first | rfl | omega | (rw [Bool.eq_iff_iff]; simp; done) | (rw [Bool.eq_iff_iff]; simp; omega)))
  (repeat refine PW.seq ?_); refine PW.cond (t := _) rfl (fun h => ?_) (fun h => ?_)
  · (repeat refine PW.seq ?_); refine PW.rg rfl fun K hK => ?_; simp (disch := omega) only [go_sem, ↓reduceIte, reduceCtorEq, pappend, plen]; refine hK _ _ ?_; clear hK K
    (refine PW.ret ⟨_, rfl, ?_⟩; first | refine .inl ⟨?_, rfl⟩ | refine Fin.base (.id' ?_ (.bool _)) | refine Fin.base (.id' ?_ (.int _ _)))
    rw [hr, h]; rfl
  rw [h] at hr
  refine PW.skip ?_
  (repeat refine PW.seq ?_); refine PW.rg rfl fun K hK => ?_; simp (disch := omega) only [go_sem, ↓reduceIte, reduceCtorEq, pappend, plen, hx]; refine hK _ _ ?_; clear hK K
  (repeat refine PW.seq ?_); refine PW.block (PW.loop ?_)
  refine PL.round ?_; (repeat refine PW.seq ?_); refine PW.rg rfl fun K hK => ?_; simp (disch := omega) only [go_sem, ↓reduceIte, reduceCtorEq, pappend, plen]; refine hK _ _ ?_; clear hK K
  (repeat refine PW.seq ?_); refine PW.cond (t := _) rfl (fun h => ?_) (fun h => ?_)
  rotate_left
  · cases h
  refine PW.skip ?_
  (repeat refine PW.seq ?_); refine PW.block ?_
  (repeat refine PW.seq ?_); refine PW.rg rfl fun K hK => ?_; simp (disch := omega) only [go_sem, ↓reduceIte, reduceCtorEq, pappend, plen]; refine hK _ _ ?_; clear hK K
  (repeat refine PW.seq ?_); refine PW.rg rfl fun K hK => ?_; simp (disch := omega) only [go_sem, ↓reduceIte, reduceCtorEq, pappend, plen]; refine VCx.call (f0 _) rfl ?_; simp (disch := omega) only [go_sem, ↓reduceIte, reduceCtorEq, pappend, plen]; refine hK _ _ ?_; clear hK K
  (repeat refine PW.seq ?_); refine PW.cond (t := _) rfl (fun h => ?_) (fun h => ?_)
  · have he : e0 = false := by simpa using h
    (repeat refine PW.seq ?_); refine PW.rg rfl fun K hK => ?_; simp (disch := omega) only [go_sem, ↓reduceIte, reduceCtorEq, pappend, plen]; refine hK _ _ ?_; clear hK K
    (refine PW.ret ⟨_, rfl, ?_⟩; first | refine .inl ⟨?_, rfl⟩ | refine Fin.base (.id' ?_ (.bool _)) | refine Fin.base (.id' ?_ (.int _ _)))
    rw [hr, he]; rfl
  have he : e0 = true := by simpa using h
  refine PW.skip ?_
  (repeat refine PW.seq ?_); refine PW.rg rfl fun K hK => ?_; simp (disch := omega) only [go_sem, ↓reduceIte, reduceCtorEq, pappend, plen]; refine hK _ _ ?_; clear hK K
  refine PL.round ?_; (repeat refine PW.seq ?_); refine PW.rg rfl fun K hK => ?_; simp (disch := omega) only [go_sem, ↓reduceIte, reduceCtorEq, pappend, plen]; refine hK _ _ ?_; clear hK K
  (repeat refine PW.seq ?_); refine PW.cond (t := _) rfl (fun h => ?_) (fun h => ?_)
  rotate_left
  · cases h
  refine PW.skip ?_
  (repeat refine PW.seq ?_); refine PW.block ?_
  (repeat refine PW.seq ?_); refine PW.rg rfl fun K hK => ?_; simp (disch := omega) only [go_sem, ↓reduceIte, reduceCtorEq, pappend, plen]; refine hK _ _ ?_; clear hK K
  (repeat refine PW.seq ?_); refine PW.rg rfl fun K hK => ?_; simp (disch := omega) only [go_sem, ↓reduceIte, reduceCtorEq, pappend, plen]; refine VCx.call (f1 _) rfl ?_; simp (disch := omega) only [go_sem, ↓reduceIte, reduceCtorEq, pappend, plen]; refine hK _ _ ?_; clear hK K
  (repeat refine PW.seq ?_); refine PW.cond (t := _) rfl (fun h => ?_) (fun h => ?_)
  · have he1 : e1 = false := by simpa using h
    (repeat refine PW.seq ?_); refine PW.rg rfl fun K hK => ?_; simp (disch := omega) only [go_sem, ↓reduceIte, reduceCtorEq, pappend, plen]; refine hK _ _ ?_; clear hK K
    (refine PW.ret ⟨_, rfl, ?_⟩; first | refine .inl ⟨?_, rfl⟩ | refine Fin.base (.id' ?_ (.bool _)) | refine Fin.base (.id' ?_ (.int _ _)))
    rw [hr, he, he1]; rfl
  have he1 : e1 = true := by simpa using h
  refine PW.skip ?_
  (repeat refine PW.seq ?_); refine PW.rg rfl fun K hK => ?_; simp (disch := omega) only [go_sem, ↓reduceIte, reduceCtorEq, pappend, plen]; refine hK _ _ ?_; clear hK K
  refine PL.round ?_; (repeat refine PW.seq ?_); refine PW.rg rfl fun K hK => ?_; simp (disch := omega) only [go_sem, ↓reduceIte, reduceCtorEq, pappend, plen]; refine hK _ _ ?_; clear hK K
  (repeat refine PW.seq ?_); refine PW.cond (t := _) rfl (fun h => ?_) (fun h => ?_)
  · cases h
  refine PW.exit ?_
  (repeat refine PW.seq ?_); refine PW.rg rfl fun K hK => ?_; simp (disch := omega) only [go_sem, ↓reduceIte, reduceCtorEq, pappend, plen]; refine hK _ _ ?_; clear hK K
  (refine PW.ret ⟨_, rfl, ?_⟩; first | refine .inl ⟨?_, rfl⟩ | refine Fin.base (.id' ?_ (.bool _)) | refine Fin.base (.id' ?_ (.int _ _)))
  rw [hr, he, he1]; rfl

def intS (c : Cx) (m : Mb) : Bool := !(decide (c.t = 1) || useB c m) && (!((m.fp && !(bcx c)) || (m.fd && !(bcx c))) && (d0S c m && (d1S c m && (lvr m.lv && (fbl (cdl m) m.lv && (if hlM m then win m.dl 30 else !m.fd && decide (m.dl = 0)))))))

end Go.Proofs.YtahomnplappbpaaGreatDoor.Sc

namespace Go.Proofs.YtahomnplappbpaaGreatDoor.Sc
set_option linter.all false
set_option linter.unusedVariables false
set_option linter.unusedSimpArgs false
open Pm Ty Go.RowKit

set_option maxHeartbeats 3200000 in
set_option maxRecDepth 10000 in
theorem inter_ref (c : Cx) (m : Mb) (H : Heap) (hl : m.lv.length = 384) : CallOk Tryz.prog 86 [.agg (cxc c), .agg (mbc m)] H (.bool (intS c m)) H := by
  have f0 : ∀ H, CallOk _ _ _ H (.bool (d0S c m)) H := fun H => dir0_ref c m H
  have f1 : ∀ H, CallOk _ _ _ H (.bool (d1S c m)) H := fun H => dir1_ref c m H
  have bo := fun H => bcx_ref c H
  have lo := fun H => lvr_ref m H hl
  have co := fun H => cod_ref m H hl
  have hr : intS c m = (!(decide (c.t = 1) || useB c m) && (!((m.fp && !(bcx c)) || (m.fd && !(bcx c))) && (d0S c m && (d1S c m && (lvr m.lv && (fbl (cdl m) m.lv && (if hlM m then win m.dl 30 else !m.fd && decide (m.dl = 0)))))))) := rfl
  have hub : useB c m = ((decide (c.t = 2) && !(m.ua && !m.ub)) || (!m.ua && !m.ub)) := rfl
  generalize intS c m = r at hr ⊢
  generalize d0S c m = e0 at f0 hr
  generalize d1S c m = e1 at f1 hr
  generalize useB c m = ux at hub hr
  generalize bcx c = bk at bo hr
  generalize hlM m = hh at co hr
  obtain ⟨k, ua, ub, fp, fd, va, vb, vc, vd, ve, vf, vg, vh, sa, sb, sc, sd, dl, ca, cb, cc, cd, ce, cf, lv⟩ := m
  obtain ⟨t, s, ii, n⟩ := c
  have hwin : win dl 30 = (decide (-30 ≤ dl) && decide (dl ≤ 30)) := rfl
  simp only [mbc, cdl] at hr hub f0 f1 lo co hl ⊢
  have hall := is_cell lv
  have htk : List.take 384 (is lv) = is lv := List.take_of_length_le (by rw [is_len]; omega)
  have hdrop : ∀ n : Nat, List.drop (24 + n * 64) (.int .i64 k :: .bool ua :: .bool ub :: .bool fp :: .bool fd :: .int .i64 va :: .int .i64 vb :: .int .i64 vc :: .int .i64 vd :: .int .i64 ve :: .int .i64 vf :: .int .i64 vg :: .int .i64 vh :: .int .i64 sa :: .int .i64 sb :: .int .i64 sc :: .int .i64 sd :: .int .i64 dl :: .bool ca :: .bool cb :: .bool cc :: .bool cd :: .bool ce :: .bool cf :: is lv) = is (lv.drop (n * 64)) := fun n => by
    rw [show 24 + n * 64 = n * 64 + 24 by omega]
    simp only [List.drop_succ_cons]
    exact is_drop _ _
  obtain ⟨cs, hcs⟩ : ∃ cs, cs = [ca, cb, cc, cd, ce, cf] := ⟨_, rfl⟩
  have hcl : cs.length = 6 := by rw [hcs]; rfl
  have hcg : ∀ q : Nat, q < 6 → (.int .i64 k :: .bool ua :: .bool ub :: .bool fp :: .bool fd :: .int .i64 va :: .int .i64 vb :: .int .i64 vc :: .int .i64 vd :: .int .i64 ve :: .int .i64 vf :: .int .i64 vg :: .int .i64 vh :: .int .i64 sa :: .int .i64 sb :: .int .i64 sc :: .int .i64 sd :: .int .i64 dl :: .bool ca :: .bool cb :: .bool cc :: .bool cd :: .bool ce :: .bool cf :: is lv)[18 + q]? = some (.bool (flagAt cs q)) := fun q hq => by
    have : q = 0 ∨ q = 1 ∨ q = 2 ∨ q = 3 ∨ q = 4 ∨ q = 5 := by omega
    rcases this with rfl | rfl | rfl | rfl | rfl | rfl <;> (rw [hcs]; rfl)
  rw [← hcs] at hr
  generalize hlr : lvr lv = lr at lo hr
  generalize hfb : fbl cs lv = fb at hr
  refine CallOk.body (F0 := [(0, .agg [.int .i64 t, .int .i64 s, .bool ii, .bool n]), (1, .agg (.int .i64 k :: .bool ua :: .bool ub :: .bool fp :: .bool fd :: .int .i64 va :: .int .i64 vb :: .int .i64 vc :: .int .i64 vd :: .int .i64 ve :: .int .i64 vf :: .int .i64 vg :: .int .i64 vh :: .int .i64 sa :: .int .i64 sb :: .int .i64 sc :: .int .i64 sd :: .int .i64 dl :: .bool ca :: .bool cb :: .bool cc :: .bool cd :: .bool ce :: .bool cf :: is lv))]) Tryz.func86 rfl Tryz.ntmps86 Tryz.results86 rfl (by kernel_rfl) rfl ?_
  (repeat refine PW.seq ?_); refine PW.rg rfl fun K hK => ?_; simp (disch := omega) only [go_sem, ↓reduceIte, reduceCtorEq, pappend, plen, hall]; refine hK _ _ ?_; clear hK K
  (repeat refine PW.seq ?_)
  refine PW.rgv (P := Tryz.prog) [2, 3] 25 (.bool (decide (t = 1) || ux)) ?_ ?_ ?_
  · rfl
  · simp (disch := omega) only [go_sem, ↓reduceIte, reduceCtorEq, pappend, plen]
    (repeat' ((first | refine VO_cond ?_ ?_ | refine VOd_cond ?_ ?_ | refine VOg_cond ?_ ?_ | refine VOh_cond ?_ ?_ | refine VOi_cond ?_ ?_ | refine And.intro ?_ ?_) <;> intro h <;> (try simp only [Bool.not_eq_true', Bool.not_eq_false', decide_eq_true_eq, decide_eq_false_iff_not] at h) <;> simp (disch := omega) only [go_sem, ↓reduceIte, reduceCtorEq, pappend, plen, h]))
    all_goals (clear f0 f1 bo lo co hr hall hdrop hcg hcs; cases ua <;> cases ub <;> (simp_all [slot, Nat.beq] <;> first | rfl | omega | (rw [Bool.eq_iff_iff]; simp; done) | (rw [Bool.eq_iff_iff]; simp; omega)))
  (repeat refine PW.seq ?_); refine PW.cond (t := _) rfl (fun h => ?_) (fun h => ?_)
  · (repeat refine PW.seq ?_); refine PW.rg rfl fun K hK => ?_; simp (disch := omega) only [go_sem, ↓reduceIte, reduceCtorEq, pappend, plen]; refine hK _ _ ?_; clear hK K
    (refine PW.ret ⟨_, rfl, ?_⟩; first | refine .inl ⟨?_, rfl⟩ | refine Fin.base (.id' ?_ (.bool _)) | refine Fin.base (.id' ?_ (.int _ _)))
    rw [hr, h]; rfl
  rw [h] at hr
  refine PW.skip ?_
  (repeat refine PW.seq ?_)
  refine PW.rgv (P := Tryz.prog) [2, 3] 58 (.bool (((fp && !bk) || (fd && !bk)) || (!e0 || (!e1 || !lr)))) ?_ ?_ ?_
  · rfl
  · cases fp <;> cases fd <;> simp (disch := omega) only [go_sem, ↓reduceIte, reduceCtorEq, pappend, plen, hall, is_len, hl, htk] <;> (repeat' (first | ((first | refine VO_cond ?_ ?_ | refine VOd_cond ?_ ?_ | refine VOg_cond ?_ ?_ | refine VOh_cond ?_ ?_ | refine VOi_cond ?_ ?_ | refine And.intro ?_ ?_) <;> intro h <;> (try simp only [Bool.not_eq_true', Bool.not_eq_false', decide_eq_true_eq, decide_eq_false_iff_not] at h) <;> simp (disch := omega) only [go_sem, ↓reduceIte, reduceCtorEq, pappend, plen, hall, is_len, hl, htk, h]) | ((first | refine VCx.call (bo _) rfl ?_ | refine VCx.call (f0 _) rfl ?_ | refine VCx.call (f1 _) rfl ?_ | refine VCx.call (lo _) rfl ?_ | refine VCy.call (bo _) rfl ?_ | refine VCy.call (f0 _) rfl ?_ | refine VCy.call (f1 _) rfl ?_ | refine VCy.call (lo _) rfl ?_ | refine VCz.call (fun _ => bo _) rfl ?_ | refine VCz.call (fun _ => f0 _) rfl ?_ | refine VCz.call (fun _ => f1 _) rfl ?_ | refine VCz.call (fun _ => lo _) rfl ?_ | refine VCk.call (fun _ _ => bo _) rfl ?_ | refine VCk.call (fun _ _ => f0 _) rfl ?_ | refine VCk.call (fun _ _ => f1 _) rfl ?_ | refine VCk.call (fun _ _ => lo _) rfl ?_ | refine VCj.now (bo _) rfl ?_ | refine VCj.now (f0 _) rfl ?_ | refine VCj.now (f1 _) rfl ?_ | refine VCj.now (lo _) rfl ?_); simp (disch := omega) only [go_sem, ↓reduceIte, reduceCtorEq, pappend, plen, hall, is_len, hl, htk])))
    all_goals (clear f0 f1 bo lo co hr hall hdrop hcg hcs; (simp_all [slot, Nat.beq] <;> first | rfl | omega | (rw [Bool.eq_iff_iff]; simp; done) | (rw [Bool.eq_iff_iff]; simp; omega)))
  (repeat refine PW.seq ?_); refine PW.cond (t := _) rfl (fun h => ?_) (fun h => ?_)
  · (repeat refine PW.seq ?_); refine PW.rg rfl fun K hK => ?_; simp (disch := omega) only [go_sem, ↓reduceIte, reduceCtorEq, pappend, plen]; refine hK _ _ ?_; clear hK K
    (refine PW.ret ⟨_, rfl, ?_⟩; first | refine .inl ⟨?_, rfl⟩ | refine Fin.base (.id' ?_ (.bool _)) | refine Fin.base (.id' ?_ (.int _ _)))
    rw [hr]
    clear f0 f1 bo lo co hall hdrop hcg hcs hr
    cases fp <;> cases fd <;> cases bk <;> cases e0 <;> cases e1 <;> cases lr <;> simp_all [slot, Nat.beq]
  have hz : (((fp && !bk) || (fd && !bk)) = false ∧ e0 = true ∧ e1 = true ∧ lr = true) := by
    clear f0 f1 bo lo co hall hdrop hcg hcs hr
    cases fp <;> cases fd <;> cases bk <;> cases e0 <;> cases e1 <;> cases lr <;> simp_all
  rw [hz.1, hz.2.1, hz.2.2.1, hz.2.2.2] at hr
  simp only [Bool.not_false, Bool.true_and] at hr
  refine PW.skip ?_
  clear f0 f1 bo lo
  (repeat refine PW.seq ?_); refine PW.rg rfl fun K hK => ?_; simp (disch := omega) only [go_sem, ↓reduceIte, reduceCtorEq, pappend, plen]; refine hK _ _ ?_; clear hK K
  (repeat refine PW.seq ?_); refine PW.block (PW.loop ?_)
  suffices hloop : ∀ (n1 : Nat), n1 ≤ 6 → (∀ q, q < n1 → flagAt cs q ≠ zbk lv q) → PL Tryz.prog _ _ [(3, .ptr (H.length + 1) 0 0), (5, .int .i64 (n1 : Int))] (H ++ [⟨33, 0, [.int .i64 t, .int .i64 s, .bool ii, .bool n]⟩, ⟨50, 0, .int .i64 k :: .bool ua :: .bool ub :: .bool fp :: .bool fd :: .int .i64 va :: .int .i64 vb :: .int .i64 vc :: .int .i64 vd :: .int .i64 ve :: .int .i64 vf :: .int .i64 vg :: .int .i64 vh :: .int .i64 sa :: .int .i64 sb :: .int .i64 sc :: .int .i64 sd :: .int .i64 dl :: .bool ca :: .bool cb :: .bool cc :: .bool cd :: .bool ce :: .bool cf :: is lv⟩]) _ by
    exact PL.at [3, 5] (hloop 0 (by omega) (fun q hq => by omega)) rfl rfl
  intro n1 hn hq
  induction hm : 6 - n1 using Nat.strongRecOn generalizing n1 with
  | _ m ih =>
    refine PL.round ?_; (repeat refine PW.seq ?_); refine PW.rg rfl fun K hK => ?_; simp (disch := omega) only [go_sem, ↓reduceIte, reduceCtorEq, pappend, plen]; refine hK _ _ ?_; clear hK K
    (repeat refine PW.seq ?_); refine PW.cond (t := _) rfl (fun h => ?_) (fun h => ?_)
    · have h4 : n1 < 6 := by have := of_decide_eq_true h; omega
      have hbl := blk_len lv n1 hl h4
      have hcel := is_cell ((lv.drop (n1 * 64)).take 64)
      have hnx := ih (6 - (n1 + 1)) (by omega) (n1 + 1) (by omega)
      have hzb : zbk lv n1 = ((lv.drop (n1 * 64)).take 64 == List.replicate 64 0) := rfl
      have hc1 := hcg n1 h4
      refine PW.skip ?_
      (repeat refine PW.seq ?_); refine PW.block ?_
      generalize hbb : (lv.drop (n1 * 64)).take 64 = bl at *
      have hpq : peqI (.int .i64) (is bl) [.int .i64 0, .int .i64 0, .int .i64 0, .int .i64 0, .int .i64 0, .int .i64 0, .int .i64 0, .int .i64 0, .int .i64 0, .int .i64 0, .int .i64 0, .int .i64 0, .int .i64 0, .int .i64 0, .int .i64 0, .int .i64 0, .int .i64 0, .int .i64 0, .int .i64 0, .int .i64 0, .int .i64 0, .int .i64 0, .int .i64 0, .int .i64 0, .int .i64 0, .int .i64 0, .int .i64 0, .int .i64 0, .int .i64 0, .int .i64 0, .int .i64 0, .int .i64 0, .int .i64 0, .int .i64 0, .int .i64 0, .int .i64 0, .int .i64 0, .int .i64 0, .int .i64 0, .int .i64 0, .int .i64 0, .int .i64 0, .int .i64 0, .int .i64 0, .int .i64 0, .int .i64 0, .int .i64 0, .int .i64 0, .int .i64 0, .int .i64 0, .int .i64 0, .int .i64 0, .int .i64 0, .int .i64 0, .int .i64 0, .int .i64 0, .int .i64 0, .int .i64 0, .int .i64 0, .int .i64 0, .int .i64 0, .int .i64 0, .int .i64 0, .int .i64 0] = some (bl == List.replicate 64 0) := peqI_is .i64 bl (List.replicate 64 0) (by rw [hbl]; simp)
      generalize (bl == List.replicate 64 0) = zz at *
      (repeat refine PW.seq ?_); refine PW.draw mix (by kernel_rfl) fun K hK => ?_; simp (disch := omega) only [go_sem, ↓reduceIte, reduceCtorEq, pappend, plen, hdrop, is_take, hbb, is_len, hbl, hcel, hpq, hc1]
      refine hK _ _ ?_; clear hK K
      (repeat refine PW.seq ?_); refine PW.cond (t := _) rfl (fun h => ?_) (fun h => ?_)
      · have h6 : flagAt cs n1 = zz := by cases hzz : zz <;> cases hff : flagAt cs n1 <;> rw [hzz, hff] at h <;> first | rfl | (simp at h)
        (repeat refine PW.seq ?_); refine PW.rg rfl fun K hK => ?_; simp (disch := omega) only [go_sem, ↓reduceIte, reduceCtorEq, pappend, plen]; refine hK _ _ ?_; clear hK K
        (refine PW.ret ⟨_, rfl, ?_⟩; first | refine .inl ⟨?_, rfl⟩ | refine Fin.base (.id' ?_ (.bool _)) | refine Fin.base (.id' ?_ (.int _ _)))
        rw [hr, ← hfb, fbl_no h4 (by rw [hzb]; exact h6)]; rfl
      · have h6 : flagAt cs n1 ≠ zz := by cases hzz : zz <;> cases hff : flagAt cs n1 <;> rw [hzz, hff] at h <;> simp at h <;> simp
        refine PW.skip ?_
        (repeat refine PW.seq ?_); refine PW.rg rfl fun K hK => ?_; simp (disch := omega) only [go_sem, ↓reduceIte, reduceCtorEq, pappend, plen]; refine hK _ _ ?_; clear hK K
        refine PL.at [3, 5] (hnx (fun q hq' => ?_) rfl) rfl rfl
        by_cases e : q = n1
        · rw [e, hzb]; exact h6
        · exact hq q (by omega)
    · have h4 : n1 = 6 := by have := of_decide_eq_false h; omega
      subst h4
      refine PW.exit ?_
      rw [← hfb, fbl_yes hq, Bool.true_and] at hr
      clear hq ih
      (repeat refine PW.seq ?_); refine PW.rg rfl fun K hK => ?_; simp (disch := omega) only [go_sem, ↓reduceIte, reduceCtorEq, pappend, plen, hall, is_len, hl, htk]; refine VCx.call (co _) rfl ?_; simp (disch := omega) only [go_sem, ↓reduceIte, reduceCtorEq, pappend, plen, hall, is_len, hl, htk]; refine hK _ _ ?_; clear hK K
      (repeat refine PW.seq ?_); refine PW.cond (t := _) rfl (fun h => ?_) (fun h => ?_)
      · have he : hh = false := by simpa using h
        subst he
        simp only [Bool.false_eq_true, if_false] at hr
        (repeat refine PW.seq ?_); refine PW.rg rfl fun K hK => ?_; simp (disch := omega) only [go_sem, ↓reduceIte, reduceCtorEq, pappend, plen]; (repeat' ((first | refine VO_cond ?_ ?_ | refine VOd_cond ?_ ?_ | refine VOg_cond ?_ ?_ | refine VOh_cond ?_ ?_ | refine VOi_cond ?_ ?_ | refine And.intro ?_ ?_) <;> intro h <;> (try simp only [Bool.not_eq_true', Bool.not_eq_false', decide_eq_true_eq, decide_eq_false_iff_not] at h) <;> simp (disch := omega) only [go_sem, ↓reduceIte, reduceCtorEq, pappend, plen, h]))
        all_goals (refine hK _ _ ?_; (refine PW.ret ⟨_, rfl, ?_⟩; first | refine .inl ⟨?_, rfl⟩ | refine Fin.base (.id' ?_ (.bool _)) | refine Fin.base (.id' ?_ (.int _ _))); rw [hr]; clear hK co hall hdrop hcg hcs hr hfb; (simp_all [slot, Nat.beq] <;> first | rfl | omega | (rw [Bool.eq_iff_iff]; simp; done) | (rw [Bool.eq_iff_iff]; simp; omega)))
      · have he : hh = true := by simpa using h
        subst he
        simp only [if_true] at hr
        refine PW.skip ?_
        (repeat refine PW.seq ?_); refine PW.rg rfl fun K hK => ?_; simp (disch := omega) only [go_sem, ↓reduceIte, reduceCtorEq, pappend, plen]; (repeat' ((first | refine VO_cond ?_ ?_ | refine VOd_cond ?_ ?_ | refine VOg_cond ?_ ?_ | refine VOh_cond ?_ ?_ | refine VOi_cond ?_ ?_ | refine And.intro ?_ ?_) <;> intro h <;> (try simp only [Bool.not_eq_true', Bool.not_eq_false', decide_eq_true_eq, decide_eq_false_iff_not] at h) <;> simp (disch := omega) only [go_sem, ↓reduceIte, reduceCtorEq, pappend, plen, h]))
        all_goals (refine hK _ _ ?_; (refine PW.ret ⟨_, rfl, ?_⟩; first | refine .inl ⟨?_, rfl⟩ | refine Fin.base (.id' ?_ (.bool _)) | refine Fin.base (.id' ?_ (.int _ _))); rw [hr, hwin]; clear hK co hall hdrop hcg hcs hr hfb hwin; (simp_all [slot, Nat.beq] <;> first | rfl | omega | (rw [Bool.eq_iff_iff]; simp; done) | (rw [Bool.eq_iff_iff]; simp; omega)))

end Go.Proofs.YtahomnplappbpaaGreatDoor.Sc
