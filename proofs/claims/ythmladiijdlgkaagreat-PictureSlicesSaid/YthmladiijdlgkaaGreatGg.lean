/-
  Contracts of chapter 10: macroblocks, an Inter macroblock, the reference's.
-/
import Derived.Test.YthmladiijdlgkaaGreatGf
namespace Go.Proofs.YthmladiijdlgkaaGreat.Sc
set_option linter.all false
set_option linter.unusedVariables false
set_option linter.unusedSimpArgs false
open Pm Ty Go.RowKit
set_option maxHeartbeats 3200000 in
set_option maxRecDepth 10000 in
theorem inter_ref (c : Cx) (m : Mb) (H : Heap) (hl : m.lv.length = 384) : CallOk Tryz.prog 82 [.agg (cxc c), .agg (mbc m)] H (.bool (intS c m)) H := by
  have f0 : ∀ H, CallOk _ _ _ H (.bool (d0S c m)) H := fun H => dir0_ref c m H
  have f1 : ∀ H, CallOk _ _ _ H (.bool (d1S c m)) H := fun H => dir1_ref c m H
  have bo := fun H => bcx_ref c H
  have lo := fun H => lvr_ref m H hl
  have co := fun H => cod_ref m H hl
  have hr : intS c m = (!(decide (c.t = 1) || useB c m) && (!((m.fp && !(bcx c)) || (m.fd && !(bcx c))) && (d0S c m && (d1S c m && (lvr m.lv && (fbl (cdl m) m.lv && (if hlM m then win m.dl 30 else !m.fd && decide (m.dl = 0)))))))) := rfl
  have hub : useB c m = ((decide (c.t = 2) && !(m.ua && !m.ub)) || (!m.ua && !m.ub)) := rfl
  generalize intS c m = r at hr ⊢
  generalize d0S c m = e0 at f0 hr
  generalize d1S c m = e1 at f1 hr
  generalize useB c m = ux at hub hr
  generalize bcx c = bk at bo hr
  generalize hlM m = hh at co hr
  obtain ⟨k, ua, ub, fp, fd, va, vb, vc, vd, ve, vf, vg, vh, sa, sb, sc, sd, dl, ca, cb, cc, cd, ce, cf, lv⟩ := m
  obtain ⟨t, s, ii, n⟩ := c
  have hwin : win dl 30 = (decide (-30 ≤ dl) && decide (dl ≤ 30)) := rfl
  simp only [mbc, cdl] at hr hub f0 f1 lo co hl ⊢
  have hall := is_cell lv
  have htk : List.take 384 (is lv) = is lv := List.take_of_length_le (by rw [is_len]; omega)
  have hdrop : ∀ n : Nat, List.drop (24 + n * 64) (.int .i64 k :: .bool ua :: .bool ub :: .bool fp :: .bool fd :: .int .i64 va :: .int .i64 vb :: .int .i64 vc :: .int .i64 vd :: .int .i64 ve :: .int .i64 vf :: .int .i64 vg :: .int .i64 vh :: .int .i64 sa :: .int .i64 sb :: .int .i64 sc :: .int .i64 sd :: .int .i64 dl :: .bool ca :: .bool cb :: .bool cc :: .bool cd :: .bool ce :: .bool cf :: is lv) = is (lv.drop (n * 64)) := fun n => by
    rw [show 24 + n * 64 = n * 64 + 24 by omega]
    simp only [List.drop_succ_cons]
    exact is_drop _ _
  obtain ⟨cs, hcs⟩ : ∃ cs, cs = [ca, cb, cc, cd, ce, cf] := ⟨_, rfl⟩
  have hcl : cs.length = 6 := by rw [hcs]; rfl
  have hcg : ∀ q : Nat, q < 6 → (.int .i64 k :: .bool ua :: .bool ub :: .bool fp :: .bool fd :: .int .i64 va :: .int .i64 vb :: .int .i64 vc :: .int .i64 vd :: .int .i64 ve :: .int .i64 vf :: .int .i64 vg :: .int .i64 vh :: .int .i64 sa :: .int .i64 sb :: .int .i64 sc :: .int .i64 sd :: .int .i64 dl :: .bool ca :: .bool cb :: .bool cc :: .bool cd :: .bool ce :: .bool cf :: is lv)[18 + q]? = some (.bool (flagAt cs q)) := fun q hq => by
    have : q = 0 ∨ q = 1 ∨ q = 2 ∨ q = 3 ∨ q = 4 ∨ q = 5 := by omega
    rcases this with rfl | rfl | rfl | rfl | rfl | rfl <;> (rw [hcs]; rfl)
  rw [← hcs] at hr
  generalize hlr : lvr lv = lr at lo hr
  generalize hfb : fbl cs lv = fb at hr
  refine CallOk.body (F0 := [(0, .agg [.int .i64 t, .int .i64 s, .bool ii, .bool n]), (1, .agg (.int .i64 k :: .bool ua :: .bool ub :: .bool fp :: .bool fd :: .int .i64 va :: .int .i64 vb :: .int .i64 vc :: .int .i64 vd :: .int .i64 ve :: .int .i64 vf :: .int .i64 vg :: .int .i64 vh :: .int .i64 sa :: .int .i64 sb :: .int .i64 sc :: .int .i64 sd :: .int .i64 dl :: .bool ca :: .bool cb :: .bool cc :: .bool cd :: .bool ce :: .bool cf :: is lv))]) Tryz.func82 rfl Tryz.ntmps82 Tryz.results82 rfl (by kernel_rfl) rfl ?_
  (repeat refine PW.seq ?_); refine PW.rg rfl fun K hK => ?_; simp (disch:=omega) only [go_sem, hall]; refine hK _ _ ?_; clear hK K
  (repeat refine PW.seq ?_)
  refine PW.rgv (P := Tryz.prog) [2, 3] 25 (.bool (decide (t = 1) || ux)) ?_ ?_ ?_
  · rfl
  · simp (disch:=omega) only [go_sem, ↓reduceIte]
    (repeat' ((first | refine VO_cond (fun h => ?_) (fun h => ?_) | refine VOd_cond (fun h => ?_) (fun h => ?_) | refine VOg_cond (fun h => ?_) (fun h => ?_) | refine VOh_cond (fun h => ?_) (fun h => ?_) | refine VOi_cond (fun h => ?_) (fun h => ?_) | refine And.intro (fun h => ?_) (fun h => ?_)) <;> (try simp only [Bool.not_eq_true', Bool.not_eq_false'] at h) <;> simp (disch:=omega) only [go_sem, ↓reduceIte, h]))
    all_goals (clear f0 f1 bo lo co hr hall hdrop hcg hcs; cases ua <;> cases ub <;> (simp_all [] <;> first | rfl | omega | (rw [Bool.eq_iff_iff]; simp; done) | (rw [Bool.eq_iff_iff]; simp; omega)))
  (repeat refine PW.seq ?_); refine PW.cond (t := _) rfl (fun h => ?_) (fun h => ?_)
  · (repeat refine PW.seq ?_); refine PW.rg rfl fun K hK => ?_; simp (disch:=omega) only [go_sem]; refine hK _ _ ?_; clear hK K
    (refine PW.ret ⟨_, rfl, ?_⟩; first | refine .inl ⟨?_, rfl⟩ | refine Fin.base (.id' ?_ (.bool _)) | refine Fin.base (.id' ?_ (.int _ _)))
    rw [hr, h]; rfl
  rw [h] at hr
  refine PW.skip ?_
  (repeat refine PW.seq ?_)
  refine PW.rgv (P := Tryz.prog) [2, 3] 58 (.bool (((fp && !bk) || (fd && !bk)) || (!e0 || (!e1 || !lr)))) ?_ ?_ ?_
  · rfl
  · cases fp <;> cases fd <;> simp (disch:=omega) only [go_sem, ↓reduceIte, is_len, hl, htk] <;> (repeat' (first | ((first | refine VO_cond (fun h => ?_) (fun h => ?_) | refine VOd_cond (fun h => ?_) (fun h => ?_) | refine VOg_cond (fun h => ?_) (fun h => ?_) | refine VOh_cond (fun h => ?_) (fun h => ?_) | refine VOi_cond (fun h => ?_) (fun h => ?_) | refine And.intro (fun h => ?_) (fun h => ?_)) <;> (try simp only [Bool.not_eq_true', Bool.not_eq_false'] at h) <;> simp (disch:=omega) only [go_sem, ↓reduceIte, is_len, hl, htk, h]) | (refine VCx.call (bo _) rfl ?_; simp (disch:=omega) only [go_sem, ↓reduceIte]) | (refine VCx.call (f0 _) rfl ?_; simp (disch:=omega) only [go_sem, ↓reduceIte]) | (refine VCx.call (f1 _) rfl ?_; simp (disch:=omega) only [go_sem, ↓reduceIte, is_len, hl, htk]) | (refine VCx.call (lo _) rfl ?_; simp (disch:=omega) only [go_sem]) | (refine VCy.call (bo _) rfl ?_; simp (disch:=omega) only [go_sem, ↓reduceIte, reduceCtorEq, pappend, plen, hall, is_len, hl, htk]) | (refine VCy.call (f0 _) rfl ?_; simp (disch:=omega) only [go_sem, ↓reduceIte, reduceCtorEq, pappend, plen, hall, is_len, hl, htk]) | (refine VCy.call (f1 _) rfl ?_; simp (disch:=omega) only [go_sem, ↓reduceIte, reduceCtorEq, pappend, plen, hall, is_len, hl, htk]) | (refine VCy.call (lo _) rfl ?_; simp (disch:=omega) only [go_sem, ↓reduceIte, reduceCtorEq, pappend, plen, hall, is_len, hl, htk]) | (refine VCz.call (fun _ => bo _) rfl ?_; simp (disch:=omega) only [go_sem, ↓reduceIte, reduceCtorEq, pappend, plen, hall, is_len, hl, htk]) | (refine VCz.call (fun _ => f0 _) rfl ?_; simp (disch:=omega) only [go_sem, ↓reduceIte, reduceCtorEq, pappend, plen, hall, is_len, hl, htk]) | (refine VCz.call (fun _ => f1 _) rfl ?_; simp (disch:=omega) only [go_sem, ↓reduceIte, reduceCtorEq, pappend, plen, hall, is_len, hl, htk]) | (refine VCz.call (fun _ => lo _) rfl ?_; simp (disch:=omega) only [go_sem, ↓reduceIte, reduceCtorEq, pappend, plen, hall, is_len, hl, htk]) | (refine VCk.call (fun _ _ => bo _) rfl ?_; simp (disch:=omega) only [go_sem, ↓reduceIte, reduceCtorEq, pappend, plen, hall, is_len, hl, htk]) | (refine VCk.call (fun _ _ => f0 _) rfl ?_; simp (disch:=omega) only [go_sem, ↓reduceIte, reduceCtorEq, pappend, plen, hall, is_len, hl, htk]) | (refine VCk.call (fun _ _ => f1 _) rfl ?_; simp (disch:=omega) only [go_sem, ↓reduceIte, reduceCtorEq, pappend, plen, hall, is_len, hl, htk]) | (refine VCk.call (fun _ _ => lo _) rfl ?_; simp (disch:=omega) only [go_sem, ↓reduceIte, reduceCtorEq, pappend, plen, hall, is_len, hl, htk]) | (refine VCj.now (bo _) rfl ?_; simp (disch:=omega) only [go_sem, ↓reduceIte, reduceCtorEq, pappend, plen, hall, is_len, hl, htk]) | (refine VCj.now (f0 _) rfl ?_; simp (disch:=omega) only [go_sem, ↓reduceIte, reduceCtorEq, pappend, plen, hall, is_len, hl, htk]) | (refine VCj.now (f1 _) rfl ?_; simp (disch:=omega) only [go_sem, ↓reduceIte, reduceCtorEq, pappend, plen, hall, is_len, hl, htk]) | (refine VCj.now (lo _) rfl ?_; simp (disch:=omega) only [go_sem, ↓reduceIte, reduceCtorEq, pappend, plen, hall, is_len, hl, htk])))
    all_goals (clear f0 f1 bo lo co hr hall hdrop hcg hcs; (simp_all [] <;> first | rfl | omega | (rw [Bool.eq_iff_iff]; simp; done) | (rw [Bool.eq_iff_iff]; simp; omega)))
  (repeat refine PW.seq ?_); refine PW.cond (t := _) rfl (fun h => ?_) (fun h => ?_)
  · (repeat refine PW.seq ?_); refine PW.rg rfl fun K hK => ?_; simp (disch:=omega) only [go_sem]; refine hK _ _ ?_; clear hK K
    (refine PW.ret ⟨_, rfl, ?_⟩; first | refine .inl ⟨?_, rfl⟩ | refine Fin.base (.id' ?_ (.bool _)) | refine Fin.base (.id' ?_ (.int _ _)))
    rw [hr]
    clear f0 f1 bo lo co hall hdrop hcg hcs hr
    cases fp <;> cases fd <;> cases bk <;> cases e0 <;> cases e1 <;> cases lr <;> simp_all [slot]
  have hz : (((fp && !bk) || (fd && !bk)) = false ∧ e0 = true ∧ e1 = true ∧ lr = true) := by
    clear f0 f1 bo lo co hall hdrop hcg hcs hr
    cases fp <;> cases fd <;> cases bk <;> cases e0 <;> cases e1 <;> cases lr <;> simp_all
  rw [hz.1, hz.2.1, hz.2.2.1, hz.2.2.2] at hr
  simp only [Bool.not_false, Bool.true_and] at hr
  refine PW.skip ?_
  clear f0 f1 bo lo
  (repeat refine PW.seq ?_); refine PW.rg rfl fun K hK => ?_; simp (disch:=omega) only [go_sem]; refine hK _ _ ?_; clear hK K
  (repeat refine PW.seq ?_); refine PW.block (PW.loop ?_)
  suffices hloop : ∀ (n1 : Nat), n1 ≤ 6 → (∀ q, q < n1 → flagAt cs q ≠ zbk lv q) → PL Tryz.prog _ _ [(3, .ptr (H.length + 1) 0 0), (5, .int .i64 (n1 : Int))] (H ++ [⟨76, 0, [.int .i64 t, .int .i64 s, .bool ii, .bool n]⟩, ⟨68, 0, .int .i64 k :: .bool ua :: .bool ub :: .bool fp :: .bool fd :: .int .i64 va :: .int .i64 vb :: .int .i64 vc :: .int .i64 vd :: .int .i64 ve :: .int .i64 vf :: .int .i64 vg :: .int .i64 vh :: .int .i64 sa :: .int .i64 sb :: .int .i64 sc :: .int .i64 sd :: .int .i64 dl :: .bool ca :: .bool cb :: .bool cc :: .bool cd :: .bool ce :: .bool cf :: is lv⟩]) _ by
    exact PL.at [3, 5] (hloop 0 (by omega) (fun q hq => by omega)) rfl rfl
  intro n1 hn hq
  induction hm : 6 - n1 using Nat.strongRecOn generalizing n1 with
  | _ m ih =>
    refine PL.round ?_; (repeat refine PW.seq ?_); refine PW.rg rfl fun K hK => ?_; simp (disch:=omega) only [go_sem, ↓reduceIte]; refine hK _ _ ?_; clear hK K
    (repeat refine PW.seq ?_); refine PW.cond (t := _) rfl (fun h => ?_) (fun h => ?_)
    · have h4 : n1 < 6 := by have := of_decide_eq_true h; omega
      have hbl := blk_len lv n1 hl h4
      have hcel := is_cell ((lv.drop (n1 * 64)).take 64)
      have hnx := ih (6 - (n1 + 1)) (by omega) (n1 + 1) (by omega)
      have hzb : zbk lv n1 = ((lv.drop (n1 * 64)).take 64 == List.replicate 64 0) := rfl
      have hc1 := hcg n1 h4
      refine PW.skip ?_
      (repeat refine PW.seq ?_); refine PW.block ?_
      generalize hbb : (lv.drop (n1 * 64)).take 64 = bl at *
      have hpq : peqI (.int .i64) (is bl) [.int .i64 0, .int .i64 0, .int .i64 0, .int .i64 0, .int .i64 0, .int .i64 0, .int .i64 0, .int .i64 0, .int .i64 0, .int .i64 0, .int .i64 0, .int .i64 0, .int .i64 0, .int .i64 0, .int .i64 0, .int .i64 0, .int .i64 0, .int .i64 0, .int .i64 0, .int .i64 0, .int .i64 0, .int .i64 0, .int .i64 0, .int .i64 0, .int .i64 0, .int .i64 0, .int .i64 0, .int .i64 0, .int .i64 0, .int .i64 0, .int .i64 0, .int .i64 0, .int .i64 0, .int .i64 0, .int .i64 0, .int .i64 0, .int .i64 0, .int .i64 0, .int .i64 0, .int .i64 0, .int .i64 0, .int .i64 0, .int .i64 0, .int .i64 0, .int .i64 0, .int .i64 0, .int .i64 0, .int .i64 0, .int .i64 0, .int .i64 0, .int .i64 0, .int .i64 0, .int .i64 0, .int .i64 0, .int .i64 0, .int .i64 0, .int .i64 0, .int .i64 0, .int .i64 0, .int .i64 0, .int .i64 0, .int .i64 0, .int .i64 0, .int .i64 0] = some (bl == List.replicate 64 0) := peqI_is .i64 bl (List.replicate 64 0) (by rw [hbl]; simp)
      generalize (bl == List.replicate 64 0) = zz at *
      (repeat refine PW.seq ?_); refine PW.draw mix (by kernel_rfl) fun K hK => ?_; simp (disch:=omega) only [go_sem, ↓reduceIte, hdrop, is_take, hbb, is_len, hbl, hpq, hc1]
      refine hK _ _ ?_; clear hK K
      (repeat refine PW.seq ?_); refine PW.cond (t := _) rfl (fun h => ?_) (fun h => ?_)
      · have h6 : flagAt cs n1 = zz := by cases hzz : zz <;> cases hff : flagAt cs n1 <;> rw [hzz, hff] at h <;> first | rfl | (simp at h)
        (repeat refine PW.seq ?_); refine PW.rg rfl fun K hK => ?_; simp (disch:=omega) only [go_sem]; refine hK _ _ ?_; clear hK K
        (refine PW.ret ⟨_, rfl, ?_⟩; first | refine .inl ⟨?_, rfl⟩ | refine Fin.base (.id' ?_ (.bool _)) | refine Fin.base (.id' ?_ (.int _ _)))
        rw [hr, ← hfb, fbl_no h4 (by rw [hzb]; exact h6)]; rfl
      · have h6 : flagAt cs n1 ≠ zz := by cases hzz : zz <;> cases hff : flagAt cs n1 <;> rw [hzz, hff] at h <;> simp at h <;> simp
        refine PW.skip ?_
        (repeat refine PW.seq ?_); refine PW.rg rfl fun K hK => ?_; simp (disch:=omega) only [go_sem, ↓reduceIte]; refine hK _ _ ?_; clear hK K
        refine PL.at [3, 5] (hnx (fun q hq' => ?_) rfl) rfl rfl
        by_cases e : q = n1
        · rw [e, hzb]; exact h6
        · exact hq q (by omega)
    · have h4 : n1 = 6 := by have := of_decide_eq_false h; omega
      subst h4
      refine PW.exit ?_
      rw [← hfb, fbl_yes hq, Bool.true_and] at hr
      clear hq ih
      (repeat refine PW.seq ?_); refine PW.rg rfl fun K hK => ?_; simp (disch:=omega) only [go_sem, ↓reduceIte, is_len, hl, htk]; refine VCx.call (co _) rfl ?_; simp (disch:=omega) only [go_sem]; refine hK _ _ ?_; clear hK K
      (repeat refine PW.seq ?_); refine PW.cond (t := _) rfl (fun h => ?_) (fun h => ?_)
      · have he : hh = false := by simpa using h
        subst he
        simp only [Bool.false_eq_true, if_false] at hr
        (repeat refine PW.seq ?_); refine PW.rg rfl fun K hK => ?_; simp (disch:=omega) only [go_sem, ↓reduceIte]; (repeat' ((first | refine VO_cond (fun h => ?_) (fun h => ?_) | refine VOd_cond (fun h => ?_) (fun h => ?_) | refine VOg_cond (fun h => ?_) (fun h => ?_) | refine VOh_cond (fun h => ?_) (fun h => ?_) | refine VOi_cond (fun h => ?_) (fun h => ?_) | refine And.intro (fun h => ?_) (fun h => ?_)) <;> (try simp only [Bool.not_eq_true', Bool.not_eq_false'] at h) <;> simp (disch:=omega) only [go_sem, ↓reduceIte, h]))
        all_goals (refine hK _ _ ?_; (refine PW.ret ⟨_, rfl, ?_⟩; first | refine .inl ⟨?_, rfl⟩ | refine Fin.base (.id' ?_ (.bool _)) | refine Fin.base (.id' ?_ (.int _ _))); rw [hr]; clear hK co hall hdrop hcg hcs hr hfb; (simp_all [slot] <;> first | rfl | omega | (rw [Bool.eq_iff_iff]; simp; done) | (rw [Bool.eq_iff_iff]; simp; omega)))
      · have he : hh = true := by simpa using h
        subst he
        simp only [if_true] at hr
        refine PW.skip ?_
        (repeat refine PW.seq ?_); refine PW.rg rfl fun K hK => ?_; simp (disch:=omega) only [go_sem, ↓reduceIte]; (repeat' ((first | refine VO_cond (fun h => ?_) (fun h => ?_) | refine VOd_cond (fun h => ?_) (fun h => ?_) | refine VOg_cond (fun h => ?_) (fun h => ?_) | refine VOh_cond (fun h => ?_) (fun h => ?_) | refine VOi_cond (fun h => ?_) (fun h => ?_) | refine And.intro (fun h => ?_) (fun h => ?_)) <;> (try simp only [decide_eq_true_eq, decide_eq_false_iff_not] at h) <;> simp (disch:=omega) only [go_sem, ↓reduceIte, h]))
        all_goals (refine hK _ _ ?_; (refine PW.ret ⟨_, rfl, ?_⟩; first | refine .inl ⟨?_, rfl⟩ | refine Fin.base (.id' ?_ (.bool _)) | refine Fin.base (.id' ?_ (.int _ _))); rw [hr, hwin]; clear hK co hall hdrop hcg hcs hr hfb hwin; (simp_all [slot] <;> first | rfl | omega | (rw [Bool.eq_iff_iff]; simp; done) | (rw [Bool.eq_iff_iff]; simp; omega)))
end Go.Proofs.YthmladiijdlgkaaGreat.Sc
