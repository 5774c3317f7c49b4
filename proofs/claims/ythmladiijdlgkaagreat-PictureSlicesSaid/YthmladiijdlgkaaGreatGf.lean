/-
  Contracts of chapter 10: macroblocks, the prediction of an Inter macroblock.
-/
import Derived.Test.YthmladiijdlgkaaGreatGe
namespace Go.Proofs.YthmladiijdlgkaaGreat.Sc
set_option linter.all false
set_option linter.unusedVariables false
set_option linter.unusedSimpArgs false
open Pm Ty Go.RowKit
def useB (c : Cx) (m : Mb) : Bool := (decide (c.t = 2) && !(m.ua && !m.ub)) || (!m.ua && !m.ub)
def d0S (c : Cx) (m : Mb) : Bool := dirS c m.fp m.ua m.va m.vb m.vc m.vd m.sa m.sb
def d1S (c : Cx) (m : Mb) : Bool := dirS c m.fp m.ub m.ve m.vf m.vg m.vh m.sc m.sd
def fprd (c : Cx) (m : Mb) : Bool := !(useB c m) && (!(m.fp && !(bcx c)) && (d0S c m && d1S c m))
set_option maxHeartbeats 3200000 in
set_option maxRecDepth 10000 in
theorem fprd_ok (c : Cx) (m : Mb) (i : Nat) (H : Heap) (hi : H[i]? = some (mB m)) : CallOk Tryz.prog 65 [.agg (cxc c), .ptr i 0 0] H (.bool (fprd c m)) H := by
  have f0 := fun K => fdir0_ok c m m.ua i (H ++ K) (get_ext hi)
  have f1 := fun K => fdir1_ok c m m.ub i (H ++ K) (get_ext hi)
  have bo := fun H => bcx_ok c H
  have hr : fprd c m = (!(useB c m) && (!(m.fp && !(bcx c)) && (d0S c m && d1S c m))) := rfl
  have hub : useB c m = ((decide (c.t = 2) && !(m.ua && !m.ub)) || (!m.ua && !m.ub)) := rfl
  change ∀ K, CallOk _ _ _ _ (.bool (d0S c m)) _ at f0
  change ∀ K, CallOk _ _ _ _ (.bool (d1S c m)) _ at f1
  generalize fprd c m = r at hr ⊢
  generalize d0S c m = e0 at f0 hr
  generalize d1S c m = e1 at f1 hr
  generalize useB c m = ux at hub hr
  generalize bcx c = bk at bo hr
  obtain ⟨k, ua, ub, fp, fd, va, vb, vc, vd, ve, vf, vg, vh, sa, sb, sc, sd, dl, ca, cb, cc, cd, ce, cf, lv⟩ := m
  obtain ⟨t, s, ii, n⟩ := c
  simp only [mB, mbc] at hi hr hub f0 f1
  have hx := fun K => get_ext (K := K) hi
  refine CallOk.body (F0 := [(0, .agg [.int .i64 t, .int .i64 s, .bool ii, .bool n]), (1, .ptr i 0 0)]) Tryz.func65 rfl Tryz.ntmps65 Tryz.results65 rfl (by kernel_rfl) rfl ?_
  (repeat refine PW.seq ?_); refine PW.rg rfl fun K hK => ?_; simp (disch:=omega) only [go_sem]; refine hK _ _ ?_; clear hK K
  (repeat refine PW.seq ?_)
  refine PW.rgv (P := Tryz.prog) [1, 2] 25 (.bool ux) ?_ ?_ ?_
  · rfl
  · simp (disch:=omega) only [go_sem, ↓reduceIte]
    (repeat' ((first | refine VO_cond (fun h => ?_) (fun h => ?_) | refine VOd_cond (fun h => ?_) (fun h => ?_) | refine VOg_cond (fun h => ?_) (fun h => ?_) | refine VOh_cond (fun h => ?_) (fun h => ?_) | refine VOi_cond (fun h => ?_) (fun h => ?_) | refine And.intro (fun h => ?_) (fun h => ?_)) <;> (try simp only [Bool.not_eq_true', Bool.not_eq_false'] at h) <;> simp (disch:=omega) only [go_sem, ↓reduceIte, hx, h]))
    all_goals (clear f0 f1 bo hi hx hr; cases ua <;> cases ub <;> (simp_all [] <;> first | rfl | omega | (rw [Bool.eq_iff_iff]; simp; done) | (rw [Bool.eq_iff_iff]; simp; omega)))
  (repeat refine PW.seq ?_); refine PW.cond (t := _) rfl (fun h => ?_) (fun h => ?_)
  · subst h
    (repeat refine PW.seq ?_); refine PW.rg rfl fun K hK => ?_; simp (disch:=omega) only [go_sem]; refine hK _ _ ?_; clear hK K
    (refine PW.ret ⟨_, rfl, ?_⟩; first | refine .inl ⟨?_, rfl⟩ | refine Fin.base (.id' ?_ (.bool _)) | refine Fin.base (.id' ?_ (.int _ _)))
    rw [hr]; rfl
  subst h
  refine PW.skip ?_
  (repeat refine PW.seq ?_)
  refine PW.rgv (P := Tryz.prog) [1, 2] 34 (.bool (fp && !bk)) ?_ ?_ ?_
  · rfl
  · simp (disch:=omega) only [go_sem, ↓reduceIte, hx]
    (repeat' (first | ((first | refine VO_cond (fun h => ?_) (fun h => ?_) | refine VOd_cond (fun h => ?_) (fun h => ?_) | refine VOg_cond (fun h => ?_) (fun h => ?_) | refine VOh_cond (fun h => ?_) (fun h => ?_) | refine VOi_cond (fun h => ?_) (fun h => ?_) | refine And.intro (fun h => ?_) (fun h => ?_)) <;> (try simp only [Bool.not_eq_true', Bool.not_eq_false', decide_eq_true_eq, decide_eq_false_iff_not] at h) <;> simp (disch:=omega) only [go_sem, h]) | (refine VCx.call (bo _) rfl ?_; simp (disch:=omega) only [go_sem]) | (refine VCy.call (bo _) rfl ?_; simp (disch:=omega) only [go_sem, ↓reduceIte, reduceCtorEq, pappend, plen, hx]) | (refine VCz.call (fun _ => bo _) rfl ?_; simp (disch:=omega) only [go_sem, ↓reduceIte, reduceCtorEq, pappend, plen, hx]) | (refine VCk.call (fun _ _ => bo _) rfl ?_; simp (disch:=omega) only [go_sem, ↓reduceIte, reduceCtorEq, pappend, plen, hx]) | (refine VCj.now (bo _) rfl ?_; simp (disch:=omega) only [go_sem, ↓reduceIte, reduceCtorEq, pappend, plen, hx])))
    all_goals (clear f0 f1 bo hi hx hr; (simp_all [slot, Nat.beq] <;> first | rfl | omega | (rw [Bool.eq_iff_iff]; simp; done) | (rw [Bool.eq_iff_iff]; simp; omega)))
  (repeat refine PW.seq ?_); refine PW.cond (t := _) rfl (fun h => ?_) (fun h => ?_)
  · (repeat refine PW.seq ?_); refine PW.rg rfl fun K hK => ?_; simp (disch:=omega) only [go_sem]; refine hK _ _ ?_; clear hK K
    (refine PW.ret ⟨_, rfl, ?_⟩; first | refine .inl ⟨?_, rfl⟩ | refine Fin.base (.id' ?_ (.bool _)) | refine Fin.base (.id' ?_ (.int _ _)))
    rw [hr, h]; rfl
  rw [h] at hr
  refine PW.skip ?_
  (repeat refine PW.seq ?_); refine PW.rg rfl fun K hK => ?_; simp (disch:=omega) only [go_sem, ↓reduceIte, hx]; refine hK _ _ ?_; clear hK K
  (repeat refine PW.seq ?_); refine PW.block (PW.loop ?_)
  refine PL.round ?_; (repeat refine PW.seq ?_); refine PW.rg rfl fun K hK => ?_; simp (disch:=omega) only [go_sem, ↓reduceIte]; refine hK _ _ ?_; clear hK K
  (repeat refine PW.seq ?_); refine PW.cond (t := _) rfl (fun h => ?_) (fun h => ?_)
  rotate_left
  · cases h
  refine PW.skip ?_
  (repeat refine PW.seq ?_); refine PW.block ?_
  (repeat refine PW.seq ?_); refine PW.rg rfl fun K hK => ?_; simp (disch:=omega) only [go_sem]; refine hK _ _ ?_; clear hK K
  (repeat refine PW.seq ?_); refine PW.rg rfl fun K hK => ?_; simp (disch:=omega) only [go_sem, ↓reduceIte]; refine VCx.call (f0 _) rfl ?_; simp (disch:=omega) only [go_sem]; refine hK _ _ ?_; clear hK K
  (repeat refine PW.seq ?_); refine PW.cond (t := _) rfl (fun h => ?_) (fun h => ?_)
  · have he : e0 = false := by simpa using h
    (repeat refine PW.seq ?_); refine PW.rg rfl fun K hK => ?_; simp (disch:=omega) only [go_sem]; refine hK _ _ ?_; clear hK K
    (refine PW.ret ⟨_, rfl, ?_⟩; first | refine .inl ⟨?_, rfl⟩ | refine Fin.base (.id' ?_ (.bool _)) | refine Fin.base (.id' ?_ (.int _ _)))
    rw [hr, he]; rfl
  have he : e0 = true := by simpa using h
  refine PW.skip ?_
  (repeat refine PW.seq ?_); refine PW.rg rfl fun K hK => ?_; simp (disch:=omega) only [go_sem, ↓reduceIte]; refine hK _ _ ?_; clear hK K
  refine PL.round ?_; (repeat refine PW.seq ?_); refine PW.rg rfl fun K hK => ?_; simp (disch:=omega) only [go_sem, ↓reduceIte]; refine hK _ _ ?_; clear hK K
  (repeat refine PW.seq ?_); refine PW.cond (t := _) rfl (fun h => ?_) (fun h => ?_)
  rotate_left
  · cases h
  refine PW.skip ?_
  (repeat refine PW.seq ?_); refine PW.block ?_
  (repeat refine PW.seq ?_); refine PW.rg rfl fun K hK => ?_; simp (disch:=omega) only [go_sem]; refine hK _ _ ?_; clear hK K
  (repeat refine PW.seq ?_); refine PW.rg rfl fun K hK => ?_; simp (disch:=omega) only [go_sem, ↓reduceIte]; refine VCx.call (f1 _) rfl ?_; simp (disch:=omega) only [go_sem]; refine hK _ _ ?_; clear hK K
  (repeat refine PW.seq ?_); refine PW.cond (t := _) rfl (fun h => ?_) (fun h => ?_)
  · have he1 : e1 = false := by simpa using h
    (repeat refine PW.seq ?_); refine PW.rg rfl fun K hK => ?_; simp (disch:=omega) only [go_sem]; refine hK _ _ ?_; clear hK K
    (refine PW.ret ⟨_, rfl, ?_⟩; first | refine .inl ⟨?_, rfl⟩ | refine Fin.base (.id' ?_ (.bool _)) | refine Fin.base (.id' ?_ (.int _ _)))
    rw [hr, he, he1]; rfl
  have he1 : e1 = true := by simpa using h
  refine PW.skip ?_
  (repeat refine PW.seq ?_); refine PW.rg rfl fun K hK => ?_; simp (disch:=omega) only [go_sem, ↓reduceIte]; refine hK _ _ ?_; clear hK K
  refine PL.round ?_; (repeat refine PW.seq ?_); refine PW.rg rfl fun K hK => ?_; simp (disch:=omega) only [go_sem, ↓reduceIte]; refine hK _ _ ?_; clear hK K
  (repeat refine PW.seq ?_); refine PW.cond (t := _) rfl (fun h => ?_) (fun h => ?_)
  · cases h
  refine PW.exit ?_
  (repeat refine PW.seq ?_); refine PW.rg rfl fun K hK => ?_; simp (disch:=omega) only [go_sem]; refine hK _ _ ?_; clear hK K
  (refine PW.ret ⟨_, rfl, ?_⟩; first | refine .inl ⟨?_, rfl⟩ | refine Fin.base (.id' ?_ (.bool _)) | refine Fin.base (.id' ?_ (.int _ _)))
  rw [hr, he, he1]; rfl
def intS (c : Cx) (m : Mb) : Bool := !(decide (c.t = 1) || useB c m) && (!((m.fp && !(bcx c)) || (m.fd && !(bcx c))) && (d0S c m && (d1S c m && (lvr m.lv && (fbl (cdl m) m.lv && (if hlM m then win m.dl 30 else !m.fd && decide (m.dl = 0)))))))
end Go.Proofs.YthmladiijdlgkaaGreat.Sc
