/-
  Contracts of chapter 10: which macroblocks are formed, the reference's function; the state at a slice's beginning.
-/
import Derived.Test.YthmladiijdlgkaaGreatGi
namespace Go.Proofs.YthmladiijdlgkaaGreat.Sc
set_option linter.all false
set_option linter.unusedVariables false
set_option linter.unusedSimpArgs false
open Pm Ty Go.RowKit
theorem zI_eq (k : Int) (ua ub fp fd : Bool) (va vb vc vd ve vf vg vh sa sb sc sd dl : Int) (ca cb cc cd ce cf : Bool) (lv : List Int) : zmb ⟨0, ua, ub, fp, false, va, vb, vc, vd, ve, vf, vg, vh, sa, sb, sc, sd, 0, false, false, false, false, false, false, zl384⟩ = zI ⟨k, ua, ub, fp, fd, va, vb, vc, vd, ve, vf, vg, vh, sa, sb, sc, sd, dl, ca, cb, cc, cd, ce, cf, lv⟩ := by
  unfold zmb zA zI
  dsimp only
  rw [zlv_zero]
  generalize ((ua == false) && ((ub == false) && true)) = b1
  generalize ((((va == 0) && ((vb == 0) && true)) && (((vc == 0) && ((vd == 0) && true)) && true)) && ((((ve == 0) && ((vf == 0) && true)) && (((vg == 0) && ((vh == 0) && true)) && true)) && true)) = b2
  generalize (((sa == 0) && ((sb == 0) && true)) && (((sc == 0) && ((sd == 0) && true)) && true)) = b3
  cases b1 <;> cases fp <;> cases b2 <;> cases b3 <;> rfl
theorem fch_I (c : Cx) (m : Mb) (hk : m.k = 1) : fch c m = ((bcx c || !m.fd) && win m.dl 30) := by
  unfold fch hlM
  rw [decide_eq_true hk]; rfl
set_option maxHeartbeats 3200000 in
set_option maxRecDepth 10000 in
theorem fm_ref (c : Cx) (m : Mb) (H : Heap) (hl : m.lv.length = 384) : CallOk Tryz.prog 42 [.agg (cxc c), .agg (mbc m)] H (.bool (fmS c m)) H := by
  have vo := fun H => vcx_ref c H
  have bo := fun H => bcx_ref c H
  have io := fun H => inter_ref c m H hl
  have lo := fun H => lvr_ref m H hl
  have hf := fch_I c m
  have hr : fmS c m = (vcx c && (if m.k = 0 then !decide (c.t = 1) && zmb m else if m.k = 1 then zI m && (aC m && (fch c m && lvr m.lv)) else if m.k = 2 then intS c m else false)) := rfl
  generalize fmS c m = r at hr ⊢
  generalize vcx c = vv at vo hr
  generalize bcx c = bk at bo hf
  generalize fch c m = fc at hf hr
  generalize lvr m.lv = lr at lo hr
  generalize intS c m = is0 at io hr
  have hem := eqMb m hl
  generalize zmb m = zm at hem hr
  obtain ⟨k, ua, ub, fp, fd, va, vb, vc, vd, ve, vf, vg, vh, sa, sb, sc, sd, dl, ca, cb, cc, cd, ce, cf, lv⟩ := m
  obtain ⟨t, s, ii, n⟩ := c
  have hzi := zI_eq k ua ub fp fd va vb vc vd ve vf vg vh sa sb sc sd dl ca cb cc cd ce cf lv
  generalize zI ⟨k, ua, ub, fp, fd, va, vb, vc, vd, ve, vf, vg, vh, sa, sb, sc, sd, dl, ca, cb, cc, cd, ce, cf, lv⟩ = zi at hzi hr
  generalize hac : aC ⟨k, ua, ub, fp, fd, va, vb, vc, vd, ve, vf, vg, vh, sa, sb, sc, sd, dl, ca, cb, cc, cd, ce, cf, lv⟩ = ac at hr
  simp only [mbc] at hr hf io lo hl hem ⊢
  have hall := is_cell lv
  have hall2 := is_cell zl384
  have hz3 : zl384.length = 384 := List.length_replicate
  have htk : List.take 384 (is lv) = is lv := List.take_of_length_le (by rw [is_len]; omega)
  have hdk : List.drop 384 (is lv) = [] := List.drop_of_length_le (by rw [is_len]; omega)
  have htk2 : List.take 384 (is zl384) = is zl384 := List.take_of_length_le (by rw [is_len, hz3]; omega)
  refine CallOk.body (F0 := [(0, .agg [.int .i64 t, .int .i64 s, .bool ii, .bool n]), (1, .agg (.int .i64 k :: .bool ua :: .bool ub :: .bool fp :: .bool fd :: .int .i64 va :: .int .i64 vb :: .int .i64 vc :: .int .i64 vd :: .int .i64 ve :: .int .i64 vf :: .int .i64 vg :: .int .i64 vh :: .int .i64 sa :: .int .i64 sb :: .int .i64 sc :: .int .i64 sd :: .int .i64 dl :: .bool ca :: .bool cb :: .bool cc :: .bool cd :: .bool ce :: .bool cf :: is lv))]) Tryz.func42 rfl Tryz.ntmps42 Tryz.results42 rfl (by kernel_rfl) rfl ?_
  (repeat refine PW.seq ?_); refine PW.rg rfl fun K hK => ?_; simp (disch:=omega) only [go_sem, hall]; refine hK _ _ ?_; clear hK K
  (repeat refine PW.seq ?_); refine PW.rg rfl fun K hK => ?_; simp (disch:=omega) only [go_sem, ↓reduceIte]; refine VCx.call (vo _) rfl ?_; simp (disch:=omega) only [go_sem]; refine hK _ _ ?_; clear hK K
  (repeat refine PW.seq ?_); refine PW.cond (t := _) rfl (fun h => ?_) (fun h => ?_)
  · have hv : vv = false := by simpa using h
    (repeat refine PW.seq ?_); refine PW.rg rfl fun K hK => ?_; simp (disch:=omega) only [go_sem]; refine hK _ _ ?_; clear hK K
    (refine PW.ret ⟨_, rfl, ?_⟩; first | refine .inl ⟨?_, rfl⟩ | refine Fin.base (.id' ?_ (.bool _)) | refine Fin.base (.id' ?_ (.int _ _)))
    rw [hr, hv]; rfl
  have hv : vv = true := by simpa using h
  rw [hv, Bool.true_and] at hr
  refine PW.skip ?_
  (repeat refine PW.seq ?_); refine PW.rg rfl fun K hK => ?_; simp (disch:=omega) only [go_sem, ↓reduceIte]; refine hK _ _ ?_; clear hK K
  (repeat refine PW.seq ?_); refine PW.block ?_
  (repeat refine PW.seq ?_); refine PW.rg rfl fun K hK => ?_; simp (disch:=omega) only [go_sem, ↓reduceIte]; refine hK _ _ ?_; clear hK K
  (repeat refine PW.seq ?_); refine PW.cond (t := _) rfl (fun h => ?_) (fun h => ?_)
  · have hk0 : k = 0 := of_decide_eq_true h
    subst hk0
    rw [if_pos rfl] at hr
    (repeat refine PW.seq ?_); refine PW.rg rfl fun K hK => ?_; simp (disch:=omega) only [go_sem, ↓reduceIte, is_len, hl, htk]; (repeat' ((first | refine VO_cond (fun h => ?_) (fun h => ?_) | refine VOd_cond (fun h => ?_) (fun h => ?_) | refine VOg_cond (fun h => ?_) (fun h => ?_) | refine VOh_cond (fun h => ?_) (fun h => ?_) | refine VOi_cond (fun h => ?_) (fun h => ?_) | refine And.intro (fun h => ?_) (fun h => ?_)) <;> (try simp only [Bool.not_eq_true', Bool.not_eq_false', decide_eq_true_eq, decide_eq_false_iff_not] at h) <;> simp (disch:=omega) only [go_sem, ↓stpMb, ↓hem, h]))
    all_goals (refine hK _ _ ?_; (refine PW.ret ⟨_, rfl, ?_⟩; first | refine .inl ⟨?_, rfl⟩ | refine Fin.base (.id' ?_ (.bool _)) | refine Fin.base (.id' ?_ (.int _ _))); clear hK vo bo io lo hem hall htk hzi; subst hr; (simp_all [slot] <;> first | rfl | omega | (rw [Bool.eq_iff_iff]; simp; done) | (rw [Bool.eq_iff_iff]; simp; omega)))
  have hk0 : ¬k = 0 := of_decide_eq_false h
  rw [if_neg hk0] at hr
  (repeat refine PW.seq ?_); refine PW.rg rfl fun K hK => ?_; simp (disch:=omega) only [go_sem, ↓reduceIte]; refine hK _ _ ?_; clear hK K
  (repeat refine PW.seq ?_); refine PW.cond (t := _) rfl (fun h => ?_) (fun h => ?_)
  · have hk1 : k = 1 := of_decide_eq_true h
    subst hk1
    rw [if_pos rfl, hf rfl] at hr
    have q4 := eqB6 ca cb cc cd ce cf
    have hc2 : ((ca == true) && ((cb == true) && ((cc == true) && ((cd == true) && ((ce == true) && ((cf == true) && true)))))) = ac := hac
    rw [hc2] at q4
    have hem2 := eqMx 0 ua ub fp false va vb vc vd ve vf vg vh sa sb sc sd 0 false false false false false false zl384 hz3
    rw [hzi] at hem2
    have hwin : win dl 30 = (decide (-30 ≤ dl) && decide (dl ≤ 30)) := rfl
    clear hc2 hac hem hf hzi io vo
    (repeat refine PW.seq ?_); refine PW.rg rfl fun K hK => ?_; simp (disch:=omega) only [go_sem, ↓reduceIte, is_len, hl, htk]; refine hK _ _ ?_; clear hK K
    (repeat refine PW.seq ?_); refine PW.rg rfl fun K hK => ?_; simp (disch:=omega) only [go_sem, ↓reduceIte, is_len, hl, hdk, hz3, ↓stpLv]; refine hK _ _ ?_; clear hK K
    (repeat refine PW.seq ?_); refine PW.rg rfl fun K hK => ?_; cases fd <;> simp (disch:=omega) only [go_sem, ↓reduceIte, is_len, hz3, htk2, ↓stpMb, ↓hem2] <;> (repeat' (first | ((first | refine VO_cond (fun h => ?_) (fun h => ?_) | refine VOd_cond (fun h => ?_) (fun h => ?_) | refine VOg_cond (fun h => ?_) (fun h => ?_) | refine VOh_cond (fun h => ?_) (fun h => ?_) | refine VOi_cond (fun h => ?_) (fun h => ?_) | refine And.intro (fun h => ?_) (fun h => ?_)) <;> (try simp only [Bool.not_eq_true', Bool.not_eq_false', decide_eq_true_eq, decide_eq_false_iff_not] at h) <;> simp (disch:=omega) only [go_sem, ↓reduceIte, is_len, hl, htk, ↓q4, h]) | (refine VCx.call (bo _) rfl ?_; simp (disch:=omega) only [go_sem]) | (refine VCx.call (lo _) rfl ?_; simp (disch:=omega) only [go_sem]) | (refine VCy.call (bo _) rfl ?_; simp (disch:=omega) only [go_sem, ↓reduceIte, reduceCtorEq, pappend, plen, hall, hall2, is_len, hl, htk, hz3, htk2, ↓stpMb, ↓hem2, ↓q4]) | (refine VCy.call (lo _) rfl ?_; simp (disch:=omega) only [go_sem, ↓reduceIte, reduceCtorEq, pappend, plen, hall, hall2, is_len, hl, htk, hz3, htk2, ↓stpMb, ↓hem2, ↓q4]) | (refine VCz.call (fun _ => bo _) rfl ?_; simp (disch:=omega) only [go_sem, ↓reduceIte, reduceCtorEq, pappend, plen, hall, hall2, is_len, hl, htk, hz3, htk2, ↓stpMb, ↓hem2, ↓q4]) | (refine VCz.call (fun _ => lo _) rfl ?_; simp (disch:=omega) only [go_sem, ↓reduceIte, reduceCtorEq, pappend, plen, hall, hall2, is_len, hl, htk, hz3, htk2, ↓stpMb, ↓hem2, ↓q4]) | (refine VCk.call (fun _ _ => bo _) rfl ?_; simp (disch:=omega) only [go_sem, ↓reduceIte, reduceCtorEq, pappend, plen, hall, hall2, is_len, hl, htk, hz3, htk2, ↓stpMb, ↓hem2, ↓q4]) | (refine VCk.call (fun _ _ => lo _) rfl ?_; simp (disch:=omega) only [go_sem, ↓reduceIte, reduceCtorEq, pappend, plen, hall, hall2, is_len, hl, htk, hz3, htk2, ↓stpMb, ↓hem2, ↓q4]) | (refine VCj.now (bo _) rfl ?_; simp (disch:=omega) only [go_sem, ↓reduceIte, reduceCtorEq, pappend, plen, hall, hall2, is_len, hl, htk, hz3, htk2, ↓stpMb, ↓hem2, ↓q4]) | (refine VCj.now (lo _) rfl ?_; simp (disch:=omega) only [go_sem, ↓reduceIte, reduceCtorEq, pappend, plen, hall, hall2, is_len, hl, htk, hz3, htk2, ↓stpMb, ↓hem2, ↓q4])))
    all_goals (refine hK _ _ ?_; (refine PW.ret ⟨_, rfl, ?_⟩; first | refine .inl ⟨?_, rfl⟩ | refine Fin.base (.id' ?_ (.bool _)) | refine Fin.base (.id' ?_ (.int _ _))); rw [hr, hwin]; clear hK bo lo hem2 q4 hr hall hall2 htk htk2 hdk hwin; (simp_all [slot] <;> first | rfl | omega | (rw [Bool.eq_iff_iff]; simp; done) | (rw [Bool.eq_iff_iff]; simp; omega)))
  have hk1 : ¬k = 1 := of_decide_eq_false h
  rw [if_neg hk1] at hr
  (repeat refine PW.seq ?_); refine PW.rg rfl fun K hK => ?_; simp (disch:=omega) only [go_sem, ↓reduceIte]; refine hK _ _ ?_; clear hK K
  (repeat refine PW.seq ?_); refine PW.cond (t := _) rfl (fun h => ?_) (fun h => ?_)
  · have hk2 : k = 2 := of_decide_eq_true h
    subst hk2
    rw [if_pos rfl] at hr
    (repeat refine PW.seq ?_); refine PW.rg rfl fun K hK => ?_; simp (disch:=omega) only [go_sem, ↓reduceIte, is_len, hl, htk]; refine VCx.call (io _) rfl ?_; simp (disch:=omega) only [go_sem]; refine hK _ _ ?_; clear hK K
    (refine PW.ret ⟨_, rfl, ?_⟩; first | refine .inl ⟨?_, rfl⟩ | refine Fin.base (.id' ?_ (.bool _)) | refine Fin.base (.id' ?_ (.int _ _)))
    rw [hr]; rfl
  have hk2 : ¬k = 2 := of_decide_eq_false h
  rw [if_neg hk2] at hr
  refine PW.skip ?_
  (repeat refine PW.seq ?_); refine PW.rg rfl fun K hK => ?_; simp (disch:=omega) only [go_sem]; refine hK _ _ ?_; clear hK K
  (refine PW.ret ⟨_, rfl, ?_⟩; first | refine .inl ⟨?_, rfl⟩ | refine Fin.base (.id' ?_ (.bool _)) | refine Fin.base (.id' ?_ (.int _ _)))
  rw [hr]; rfl
end Go.Proofs.YthmladiijdlgkaaGreat.Sc
