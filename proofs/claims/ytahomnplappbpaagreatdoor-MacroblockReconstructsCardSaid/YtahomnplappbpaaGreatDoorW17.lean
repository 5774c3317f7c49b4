/-
  Parts of the proof, put together in one text. No condition.
-/
import Derived.Test.YtahomnplappbpaaGreatDoorW16
namespace Go.Proofs.YtahomnplappbpaaGreatDoor.Sc
set_option linter.all false
set_option linter.unusedVariables false
set_option linter.unusedSimpArgs false
open Pm Ty Go.RowKit

theorem vrg_ok (x y : Int) (H : Heap) : CallOk Tryz.prog 176 [.agg [.int .i64 x, .int .i64 y]] H (.bool (vrg x y)) H := by
  refine CallOk.body (F0 := [(0, .agg [.int .i64 x, .int .i64 y])]) Tryz.func176 rfl Tryz.ntmps176 Tryz.results176 rfl (by kernel_rfl) rfl ?_
  (repeat' (first | refine PW.seq ?_ | refine PW.skip ?_ | refine PW.block ?_ | (refine PW.rg rfl fun K hK => ?_; simp (disch := omega) only [go_sem, ↓reduceIte, reduceCtorEq, pappend, plen]) | (refine PW.draw mix (by kernel_rfl) fun K hK => ?_; simp (disch := omega) only [go_sem, ↓reduceIte, reduceCtorEq, pappend, plen]) | (refine PW.drawg mix (by kernel_rfl) fun K hK => ?_; simp (disch := omega) only [go_sem, ↓reduceIte, reduceCtorEq, pappend, plen]) | (refine PW.drawt [] [] mix (by kernel_rfl) fun K hK => ?_; simp (disch := omega) only [go_sem, ↓reduceIte, reduceCtorEq, pappend, plen]) | ((first | refine VO_cond ?_ ?_ | refine VOd_cond ?_ ?_ | refine VOg_cond ?_ ?_ | refine VOh_cond ?_ ?_ | refine VOi_cond ?_ ?_ | refine And.intro ?_ ?_) <;> intro h <;> (try simp only [Bool.not_eq_true', Bool.not_eq_false', decide_eq_true_eq, decide_eq_false_iff_not] at h) <;> simp (disch := omega) only [go_sem, ↓reduceIte, reduceCtorEq, pappend, plen, h]) | ((first | refine VCx.call (win_ok x 63 _ (by omega)) rfl ?_ | refine VCx.call (win_ok y 63 _ (by omega)) rfl ?_ | refine VCy.call (win_ok x 63 _ (by omega)) rfl ?_ | refine VCy.call (win_ok y 63 _ (by omega)) rfl ?_ | refine VCz.call (fun _ => win_ok x 63 _ (by omega)) rfl ?_ | refine VCz.call (fun _ => win_ok y 63 _ (by omega)) rfl ?_ | refine VCk.call (fun _ _ => win_ok x 63 _ (by omega)) rfl ?_ | refine VCk.call (fun _ _ => win_ok y 63 _ (by omega)) rfl ?_ | refine VCj.now (win_ok x 63 _ (by omega)) rfl ?_ | refine VCj.now (win_ok y 63 _ (by omega)) rfl ?_); simp (disch := omega) only [go_sem, ↓reduceIte, reduceCtorEq, pappend, plen]) | (refine hK _ _ ?_; clear hK K) | (refine PW.cond (t := _) rfl (fun h => ?_) (fun h => ?_) <;> (try (cases h; done)) <;> (try simp only [Bool.not_eq_true', Bool.not_eq_false', decide_eq_true_eq, decide_eq_false_iff_not] at h))))
  all_goals ((refine PW.ret ⟨_, rfl, ?_⟩; first | refine .inl ⟨?_, rfl⟩ | refine Fin.base (.id' ?_ (.bool _)) | refine Fin.base (.id' ?_ (.int _ _))); (simp_all [vrg, slot, Nat.beq] <;> first | rfl | omega | (rw [Bool.eq_iff_iff]; simp; done) | (rw [Bool.eq_iff_iff]; simp; omega)))
theorem vrg_ref (x y : Int) (H : Heap) : CallOk Tryz.prog 172 [.agg [.int .i64 x, .int .i64 y]] H (.bool (vrg x y)) H := by
  refine CallOk.body (F0 := [(0, .agg [.int .i64 x, .int .i64 y])]) Tryz.func172 rfl Tryz.ntmps172 Tryz.results172 rfl (by kernel_rfl) rfl ?_
  (repeat' (first | refine PW.seq ?_ | refine PW.skip ?_ | refine PW.block ?_ | (refine PW.rg rfl fun K hK => ?_; simp (disch := omega) only [go_sem, ↓reduceIte, reduceCtorEq, pappend, plen]) | (refine PW.draw mix (by kernel_rfl) fun K hK => ?_; simp (disch := omega) only [go_sem, ↓reduceIte, reduceCtorEq, pappend, plen]) | (refine PW.drawg mix (by kernel_rfl) fun K hK => ?_; simp (disch := omega) only [go_sem, ↓reduceIte, reduceCtorEq, pappend, plen]) | (refine PW.drawt [] [] mix (by kernel_rfl) fun K hK => ?_; simp (disch := omega) only [go_sem, ↓reduceIte, reduceCtorEq, pappend, plen]) | ((first | refine VO_cond ?_ ?_ | refine VOd_cond ?_ ?_ | refine VOg_cond ?_ ?_ | refine VOh_cond ?_ ?_ | refine VOi_cond ?_ ?_ | refine And.intro ?_ ?_) <;> intro h <;> (try simp only [Bool.not_eq_true', Bool.not_eq_false', decide_eq_true_eq, decide_eq_false_iff_not] at h) <;> simp (disch := omega) only [go_sem, ↓reduceIte, reduceCtorEq, pappend, plen, h]) | (refine hK _ _ ?_; clear hK K) | (refine PW.cond (t := _) rfl (fun h => ?_) (fun h => ?_) <;> (try (cases h; done)) <;> (try simp only [Bool.not_eq_true', Bool.not_eq_false', decide_eq_true_eq, decide_eq_false_iff_not] at h))))
  all_goals ((refine PW.ret ⟨_, rfl, ?_⟩; first | refine .inl ⟨?_, rfl⟩ | refine Fin.base (.id' ?_ (.bool _)) | refine Fin.base (.id' ?_ (.int _ _))); (simp_all [vrg, win, slot, Nat.beq] <;> first | rfl | omega | (rw [Bool.eq_iff_iff]; simp; done) | (rw [Bool.eq_iff_iff]; simp; omega)))
theorem hl_ok (m : Mb) (i : Nat) (H : Heap) (hi : H[i]? = some (mB m)) : CallOk Tryz.prog 177 [.ptr i 0 0] H (.bool (hlM m)) H := by
  obtain ⟨k, ua, ub, fp, fd, va, vb, vc, vd, ve, vf, vg, vh, sa, sb, sc, sd, dl, ca, cb, cc, cd, ce, cf, lv⟩ := m
  simp only [mB, mbc] at hi
  refine CallOk.body (F0 := [(0, .ptr i 0 0)]) Tryz.func177 rfl Tryz.ntmps177 Tryz.results177 rfl (by kernel_rfl) rfl ?_
  (repeat' (first | refine PW.seq ?_ | refine PW.skip ?_ | refine PW.block ?_ | (refine PW.rg rfl fun K hK => ?_; simp (disch := omega) only [go_sem, ↓reduceIte, reduceCtorEq, pappend, plen, hi]) | (refine PW.draw mix (by kernel_rfl) fun K hK => ?_; simp (disch := omega) only [go_sem, ↓reduceIte, reduceCtorEq, pappend, plen, hi]) | (refine PW.drawg mix (by kernel_rfl) fun K hK => ?_; simp (disch := omega) only [go_sem, ↓reduceIte, reduceCtorEq, pappend, plen, hi]) | (refine PW.drawt [] [] mix (by kernel_rfl) fun K hK => ?_; simp (disch := omega) only [go_sem, ↓reduceIte, reduceCtorEq, pappend, plen, hi]) | ((first | refine VO_cond ?_ ?_ | refine VOd_cond ?_ ?_ | refine VOg_cond ?_ ?_ | refine VOh_cond ?_ ?_ | refine VOi_cond ?_ ?_ | refine And.intro ?_ ?_) <;> intro h <;> (try simp only [Bool.not_eq_true', Bool.not_eq_false', decide_eq_true_eq, decide_eq_false_iff_not] at h) <;> simp (disch := omega) only [go_sem, ↓reduceIte, reduceCtorEq, pappend, plen, hi, h]) | (refine hK _ _ ?_; clear hK K) | (refine PW.cond (t := _) rfl (fun h => ?_) (fun h => ?_) <;> (try (cases h; done)) <;> (try simp only [Bool.not_eq_true', Bool.not_eq_false', decide_eq_true_eq, decide_eq_false_iff_not] at h))))
  all_goals ((refine PW.ret ⟨_, rfl, ?_⟩; first | refine .inl ⟨?_, rfl⟩ | refine Fin.base (.id' ?_ (.bool _)) | refine Fin.base (.id' ?_ (.int _ _))); clear hi; cases ca <;> cases cb <;> cases cc <;> cases cd <;> cases ce <;> cases cf <;> (simp_all [hlM, anyC, slot, Nat.beq] <;> first | rfl | omega | (rw [Bool.eq_iff_iff]; simp; done) | (rw [Bool.eq_iff_iff]; simp; omega)))
theorem sel_ok (c : Cx) (m : Mb) (i : Nat) (H : Heap) (hi : H[i]? = some (mB m)) : CallOk Tryz.prog 182 [.agg (cxc c), .ptr i 0 0] H (.bool (m.fp || fcx c)) H := by
  obtain ⟨k, ua, ub, fp, fd, va, vb, vc, vd, ve, vf, vg, vh, sa, sb, sc, sd, dl, ca, cb, cc, cd, ce, cf, lv⟩ := m
  simp only [mB, mbc] at hi
  have hx := fun K => get_ext (K := K) hi
  have fo := fun H => fcx_ok c H
  obtain ⟨t, s, ii, n⟩ := c
  refine CallOk.body (F0 := [(0, .agg [.int .i64 t, .int .i64 s, .bool ii, .bool n]), (1, .ptr i 0 0)]) Tryz.func182 rfl Tryz.ntmps182 Tryz.results182 rfl (by kernel_rfl) rfl ?_
  (repeat' (first | refine PW.seq ?_ | refine PW.skip ?_ | refine PW.block ?_ | (refine PW.rg rfl fun K hK => ?_; simp (disch := omega) only [go_sem, ↓reduceIte, reduceCtorEq, pappend, plen, hi, hx]) | (refine PW.draw mix (by kernel_rfl) fun K hK => ?_; simp (disch := omega) only [go_sem, ↓reduceIte, reduceCtorEq, pappend, plen, hi, hx]) | (refine PW.drawg mix (by kernel_rfl) fun K hK => ?_; simp (disch := omega) only [go_sem, ↓reduceIte, reduceCtorEq, pappend, plen, hi, hx]) | (refine PW.drawt [] [] mix (by kernel_rfl) fun K hK => ?_; simp (disch := omega) only [go_sem, ↓reduceIte, reduceCtorEq, pappend, plen, hi, hx]) | ((first | refine VO_cond ?_ ?_ | refine VOd_cond ?_ ?_ | refine VOg_cond ?_ ?_ | refine VOh_cond ?_ ?_ | refine VOi_cond ?_ ?_ | refine And.intro ?_ ?_) <;> intro h <;> (try simp only [Bool.not_eq_true', Bool.not_eq_false', decide_eq_true_eq, decide_eq_false_iff_not] at h) <;> simp (disch := omega) only [go_sem, ↓reduceIte, reduceCtorEq, pappend, plen, hi, hx, h]) | ((first | refine VCx.call (fo _) rfl ?_ | refine VCy.call (fo _) rfl ?_ | refine VCz.call (fun _ => fo _) rfl ?_ | refine VCk.call (fun _ _ => fo _) rfl ?_ | refine VCj.now (fo _) rfl ?_); simp (disch := omega) only [go_sem, ↓reduceIte, reduceCtorEq, pappend, plen, hi, hx]) | (refine hK _ _ ?_; clear hK K) | (refine PW.cond (t := _) rfl (fun h => ?_) (fun h => ?_) <;> (try (cases h; done)) <;> (try simp only [Bool.not_eq_true', Bool.not_eq_false', decide_eq_true_eq, decide_eq_false_iff_not] at h))))
  all_goals ((refine PW.ret ⟨_, rfl, ?_⟩; first | refine .inl ⟨?_, rfl⟩ | refine Fin.base (.id' ?_ (.bool _)) | refine Fin.base (.id' ?_ (.int _ _))); clear hi hx fo; (simp_all [slot, Nat.beq] <;> first | rfl | omega | (rw [Bool.eq_iff_iff]; simp; done) | (rw [Bool.eq_iff_iff]; simp; omega)))
theorem cod_ref (m : Mb) (H : Heap) (hl : m.lv.length = 384) : CallOk Tryz.prog 170 [.agg (mbc m)] H (.bool (hlM m)) H := by
  obtain ⟨k, ua, ub, fp, fd, va, vb, vc, vd, ve, vf, vg, vh, sa, sb, sc, sd, dl, ca, cb, cc, cd, ce, cf, lv⟩ := m
  have hall : (is lv).all PV.cell = true := by simp [is, PV.cell]
  refine CallOk.body (F0 := [(0, .agg (.int .i64 k :: .bool ua :: .bool ub :: .bool fp :: .bool fd :: .int .i64 va :: .int .i64 vb :: .int .i64 vc :: .int .i64 vd :: .int .i64 ve :: .int .i64 vf :: .int .i64 vg :: .int .i64 vh :: .int .i64 sa :: .int .i64 sb :: .int .i64 sc :: .int .i64 sd :: .int .i64 dl :: .bool ca :: .bool cb :: .bool cc :: .bool cd :: .bool ce :: .bool cf :: is lv))]) Tryz.func170 rfl Tryz.ntmps170 Tryz.results170 rfl (by kernel_rfl) rfl ?_
  (repeat' (first | refine PW.seq ?_ | refine PW.skip ?_ | refine PW.block ?_ | (refine PW.rg rfl fun K hK => ?_; simp (disch := omega) only [go_sem, ↓reduceIte, reduceCtorEq, pappend, plen, hall]) | (refine PW.draw mix (by kernel_rfl) fun K hK => ?_; simp (disch := omega) only [go_sem, ↓reduceIte, reduceCtorEq, pappend, plen, hall]) | (refine PW.drawg mix (by kernel_rfl) fun K hK => ?_; simp (disch := omega) only [go_sem, ↓reduceIte, reduceCtorEq, pappend, plen, hall]) | (refine PW.drawt [] [] mix (by kernel_rfl) fun K hK => ?_; simp (disch := omega) only [go_sem, ↓reduceIte, reduceCtorEq, pappend, plen, hall]) | ((first | refine VO_cond ?_ ?_ | refine VOd_cond ?_ ?_ | refine VOg_cond ?_ ?_ | refine VOh_cond ?_ ?_ | refine VOi_cond ?_ ?_ | refine And.intro ?_ ?_) <;> intro h <;> (try simp only [Bool.not_eq_true', Bool.not_eq_false', decide_eq_true_eq, decide_eq_false_iff_not] at h) <;> simp (disch := omega) only [go_sem, ↓reduceIte, reduceCtorEq, pappend, plen, hall, h]) | (refine hK _ _ ?_; clear hK K) | (refine PW.cond (t := _) rfl (fun h => ?_) (fun h => ?_) <;> (try (cases h; done)) <;> (try simp only [Bool.not_eq_true', Bool.not_eq_false', decide_eq_true_eq, decide_eq_false_iff_not] at h))))
  all_goals ((refine PW.ret ⟨_, rfl, ?_⟩; first | refine .inl ⟨?_, rfl⟩ | refine Fin.base (.id' ?_ (.bool _)) | refine Fin.base (.id' ?_ (.int _ _))); cases ca <;> cases cb <;> cases cc <;> cases cd <;> cases ce <;> cases cf <;> (simp_all [hlM, anyC, slot, Nat.beq] <;> first | rfl | omega | (rw [Bool.eq_iff_iff]; simp; done) | (rw [Bool.eq_iff_iff]; simp; omega)))
theorem fch_ok (c : Cx) (m : Mb) (i : Nat) (H : Heap) (hi : H[i]? = some (mB m)) : CallOk Tryz.prog 150 [.agg (cxc c), .ptr i 0 0] H (.bool (fch c m)) H := by
  have hlo := fun K => hl_ok m i (H ++ K) (get_ext hi)
  have bo := fun H => bcx_ok c H
  have hfc : fch c m = if hlM m then (bcx c || !m.fd) && win m.dl 30 else !m.fd && decide (m.dl = 0) := rfl
  generalize fch c m = r at hfc ⊢
  generalize hlM m = h1 at hlo hfc
  obtain ⟨k, ua, ub, fp, fd, va, vb, vc, vd, ve, vf, vg, vh, sa, sb, sc, sd, dl, ca, cb, cc, cd, ce, cf, lv⟩ := m
  simp only [mB, mbc] at hi hfc
  have hx := fun K => get_ext (K := K) hi
  generalize bcx c = b1 at bo hfc
  obtain ⟨t, s, ii, n⟩ := c
  have wo := fun H => win_ok dl 30 H (by omega)
  generalize win dl 30 = w1 at wo hfc
  refine CallOk.body (F0 := [(0, .agg [.int .i64 t, .int .i64 s, .bool ii, .bool n]), (1, .ptr i 0 0)]) Tryz.func150 rfl Tryz.ntmps150 Tryz.results150 rfl (by kernel_rfl) rfl ?_
  (repeat' (first | refine PW.seq ?_ | refine PW.skip ?_ | refine PW.block ?_ | (refine PW.rg rfl fun K hK => ?_; simp (disch := omega) only [go_sem, ↓reduceIte, reduceCtorEq, pappend, plen, hx]) | (refine PW.draw mix (by kernel_rfl) fun K hK => ?_; simp (disch := omega) only [go_sem, ↓reduceIte, reduceCtorEq, pappend, plen, hx]) | (refine PW.drawg mix (by kernel_rfl) fun K hK => ?_; simp (disch := omega) only [go_sem, ↓reduceIte, reduceCtorEq, pappend, plen, hx]) | (refine PW.drawt [] [] mix (by kernel_rfl) fun K hK => ?_; simp (disch := omega) only [go_sem, ↓reduceIte, reduceCtorEq, pappend, plen, hx]) | ((first | refine VO_cond ?_ ?_ | refine VOd_cond ?_ ?_ | refine VOg_cond ?_ ?_ | refine VOh_cond ?_ ?_ | refine VOi_cond ?_ ?_ | refine And.intro ?_ ?_) <;> intro h <;> (try simp only [Bool.not_eq_true', Bool.not_eq_false', decide_eq_true_eq, decide_eq_false_iff_not] at h) <;> simp (disch := omega) only [go_sem, ↓reduceIte, reduceCtorEq, pappend, plen, hx, h]) | ((first | refine VCx.call (hlo _) rfl ?_ | refine VCx.call (bo _) rfl ?_ | refine VCx.call (wo _) rfl ?_ | refine VCy.call (hlo _) rfl ?_ | refine VCy.call (bo _) rfl ?_ | refine VCy.call (wo _) rfl ?_ | refine VCz.call (fun _ => hlo _) rfl ?_ | refine VCz.call (fun _ => bo _) rfl ?_ | refine VCz.call (fun _ => wo _) rfl ?_ | refine VCk.call (fun _ _ => hlo _) rfl ?_ | refine VCk.call (fun _ _ => bo _) rfl ?_ | refine VCk.call (fun _ _ => wo _) rfl ?_ | refine VCj.now (hlo _) rfl ?_ | refine VCj.now (bo _) rfl ?_ | refine VCj.now (wo _) rfl ?_); simp (disch := omega) only [go_sem, ↓reduceIte, reduceCtorEq, pappend, plen, hx]) | (refine hK _ _ ?_; clear hK K) | (refine PW.cond (t := _) rfl (fun h => ?_) (fun h => ?_) <;> (try (cases h; done)) <;> (try simp only [Bool.not_eq_true', Bool.not_eq_false', decide_eq_true_eq, decide_eq_false_iff_not] at h))))
  all_goals ((refine PW.ret ⟨_, rfl, ?_⟩; first | refine .inl ⟨?_, rfl⟩ | refine Fin.base (.id' ?_ (.bool _)) | refine Fin.base (.id' ?_ (.int _ _))); clear hi hx hlo bo wo; subst hfc; (simp_all [slot, Nat.beq] <;> first | rfl | omega | (rw [Bool.eq_iff_iff]; simp; done) | (rw [Bool.eq_iff_iff]; simp; omega)))

theorem is_cell (l : List Int) : (is l).all PV.cell = true := by
  unfold is
  rw [List.all_map]
  exact List.all_eq_true.2 fun x _ => rfl
/-- Are all levels in range? -/
def lvr (lv : List Int) : Bool := (List.range 384).all fun q => win (intAt lv q) 4095
theorem lvr_no {lv : List Int} {q : Nat} (h : q < 384) (hw : win (intAt lv q) 4095 = false) : lvr lv = false := by
  cases hc : lvr lv with
  | false => rfl
  | true =>
    have := List.all_eq_true.1 hc q (List.mem_range.2 h)
    rw [hw] at this; cases this
theorem lvr_yes {lv : List Int} (h : ∀ q, q < 384 → win (intAt lv q) 4095 = true) : lvr lv = true := List.all_eq_true.2 fun q hq => h q (List.mem_range.1 hq)
theorem blk_at (lv : List Int) (n j : Nat) (hj : j < 64) : intAt ((lv.drop (n * 64)).take 64) j = intAt lv (n * 64 + j) := by
  simp only [intAt, List.getD, List.getElem?_take, List.getElem?_drop]
  rw [if_pos hj]
theorem blk_len (lv : List Int) (n : Nat) (hl : lv.length = 384) (hn : n < 6) : ((lv.drop (n * 64)).take 64).length = 64 := by simp; omega

theorem lvr_ok (m : Mb) (i : Nat) (H : Heap) (hi : H[i]? = some (mB m)) (hl : m.lv.length = 384) : CallOk Tryz.prog 151 [.ptr i 0 0] H (.bool (lvr m.lv)) H := by
  obtain ⟨k, ua, ub, fp, fd, va, vb, vc, vd, ve, vf, vg, vh, sa, sb, sc, sd, dl, ca, cb, cc, cd, ce, cf, lv⟩ := m
  simp only [mB, mbc] at hi hl ⊢
  have hdrop : ∀ n : Nat, List.drop (24 + n * 64) (.int .i64 k :: .bool ua :: .bool ub :: .bool fp :: .bool fd :: .int .i64 va :: .int .i64 vb :: .int .i64 vc :: .int .i64 vd :: .int .i64 ve :: .int .i64 vf :: .int .i64 vg :: .int .i64 vh :: .int .i64 sa :: .int .i64 sb :: .int .i64 sc :: .int .i64 sd :: .int .i64 dl :: .bool ca :: .bool cb :: .bool cc :: .bool cd :: .bool ce :: .bool cf :: is lv) = is (lv.drop (n * 64)) := fun n => by
    rw [show 24 + n * 64 = n * 64 + 24 by omega]
    simp only [List.drop_succ_cons]
    exact is_drop _ _
  refine CallOk.body (F0 := [(0, .ptr i 0 0)]) Tryz.func151 rfl Tryz.ntmps151 Tryz.results151 rfl (by kernel_rfl) rfl ?_
  (repeat refine PW.seq ?_); refine PW.rg rfl fun K hK => ?_; simp (disch := omega) only [go_sem, ↓reduceIte, reduceCtorEq, pappend, plen]; refine hK _ _ ?_; clear hK K; (repeat refine PW.seq ?_); refine PW.rg rfl fun K hK => ?_; simp (disch := omega) only [go_sem, ↓reduceIte, reduceCtorEq, pappend, plen]; refine hK _ _ ?_; clear hK K
  (repeat refine PW.seq ?_); refine PW.block (PW.loop ?_)
  suffices hloop : ∀ (n : Nat), n ≤ 6 → (∀ q, q < n * 64 → win (intAt lv q) 4095 = true) → PL Tryz.prog _ _ [(0, .ptr i 0 0), (6, .int .i64 (n : Int))] H _ by
    exact PL.at [0, 6] (hloop 0 (by omega) (fun q hq => by omega)) rfl rfl
  intro n hn hq
  induction hm : 6 - n using Nat.strongRecOn generalizing n with
  | _ m ih =>
    refine PL.round ?_; (repeat refine PW.seq ?_); refine PW.rg rfl fun K hK => ?_; simp (disch := omega) only [go_sem, ↓reduceIte, reduceCtorEq, pappend, plen]; refine hK _ _ ?_; clear hK K
    (repeat refine PW.seq ?_); refine PW.cond (t := _) rfl (fun h => ?_) (fun h => ?_)
    · have h4 : n < 6 := by have := of_decide_eq_true h; omega
      have hbl := blk_len lv n hl h4
      have hcel := is_cell ((lv.drop (n * 64)).take 64)
      have hnx := ih (6 - (n + 1)) (by omega) (n + 1) (by omega)
      refine PW.skip ?_
      (repeat refine PW.seq ?_); refine PW.block ?_
      (repeat refine PW.seq ?_); refine PW.rg rfl fun K hK => ?_; simp (disch := omega) only [go_sem, ↓reduceIte, reduceCtorEq, pappend, plen]; refine hK _ _ ?_; clear hK K
      (repeat refine PW.seq ?_); refine PW.rg rfl fun K hK => ?_; simp (disch := omega) only [go_sem, ↓reduceIte, reduceCtorEq, pappend, plen, hi, hdrop, is_take, is_len, hbl, hcel]; refine hK _ _ ?_; clear hK K
      have hat := blk_at lv n
      generalize (lv.drop (n * 64)).take 64 = bl at *
      (repeat refine PW.seq ?_); refine PW.block (PW.loop ?_)
      clear ih
      suffices hloop : ∀ (j : Nat), j ≤ 64 → (∀ q, q < n * 64 + j → win (intAt lv q) 4095 = true) → PL Tryz.prog _ _ [(0, .ptr i 0 0), (6, .int .i64 (n : Int)), (14, .agg (is bl)), (15, .int .i64 (j : Int))] H _ by
        exact PL.at [0, 6, 14, 15] (hloop 0 (by omega) (fun q hq' => hq q (by omega))) rfl rfl
      intro j hj hq2
      induction hm2 : 64 - j using Nat.strongRecOn generalizing j with
      | _ m2 ih =>
        refine PL.round ?_; (repeat refine PW.seq ?_); refine PW.rg rfl fun K hK => ?_; simp (disch := omega) only [go_sem, ↓reduceIte, reduceCtorEq, pappend, plen]; refine hK _ _ ?_; clear hK K
        (repeat refine PW.seq ?_); refine PW.cond (t := _) rfl (fun h => ?_) (fun h => ?_)
        · have h5 : j < 64 := by have := of_decide_eq_true h; omega
          have hw := fun H => win_ok (intAt bl j) 4095 H (by omega)
          refine PW.skip ?_
          (repeat refine PW.seq ?_); refine PW.block ?_
          (repeat refine PW.seq ?_); refine PW.rg rfl fun K hK => ?_; simp (disch := omega) only [go_sem, ↓reduceIte, reduceCtorEq, pappend, plen, is_get, is_len, hbl]; refine hK _ _ ?_; clear hK K
          (repeat refine PW.seq ?_); refine PW.rg rfl fun K hK => ?_; simp (disch := omega) only [go_sem, ↓reduceIte, reduceCtorEq, pappend, plen]; refine VCx.call (hw _) rfl ?_; simp (disch := omega) only [go_sem, ↓reduceIte, reduceCtorEq, pappend, plen]; refine hK _ _ ?_; clear hK K
          (repeat refine PW.seq ?_); refine PW.cond (t := _) rfl (fun h => ?_) (fun h => ?_)
          · have h6 : win (intAt bl j) 4095 = false := by simpa using h
            (repeat refine PW.seq ?_); refine PW.rg rfl fun K hK => ?_; simp (disch := omega) only [go_sem, ↓reduceIte, reduceCtorEq, pappend, plen]; refine hK _ _ ?_; clear hK K
            refine PW.ret ⟨_, rfl, ?_⟩
            rw [lvr_no (q := n * 64 + j) (by omega) (by rw [← hat j h5]; exact h6)]
            exact Fin.now
          · have h6 : win (intAt bl j) 4095 = true := by simpa using h
            refine PW.skip ?_
            (repeat refine PW.seq ?_); refine PW.rg rfl fun K hK => ?_; simp (disch := omega) only [go_sem, ↓reduceIte, reduceCtorEq, pappend, plen]; refine hK _ _ ?_; clear hK K
            refine PL.at [0, 6, 14, 15] (ih (64 - (j + 1)) (by omega) (j + 1) (by omega) (fun q hq' => ?_) rfl) rfl rfl
            by_cases e : q = n * 64 + j
            · rw [e, ← hat j h5]; exact h6
            · exact hq2 q (by omega)
        · have h5 : j = 64 := by have := of_decide_eq_false h; omega
          subst h5
          refine PW.exit ?_
          (repeat refine PW.seq ?_); refine PW.rg rfl fun K hK => ?_; simp (disch := omega) only [go_sem, ↓reduceIte, reduceCtorEq, pappend, plen]; refine hK _ _ ?_; clear hK K
          exact PL.at [0, 6] (hnx (fun q hq' => hq2 q (by omega)) rfl) rfl rfl
    · have h4 : n = 6 := by have := of_decide_eq_false h; omega
      subst h4
      refine PW.exit ?_
      (repeat refine PW.seq ?_); refine PW.rg rfl fun K hK => ?_; simp (disch := omega) only [go_sem, ↓reduceIte, reduceCtorEq, pappend, plen]; refine hK _ _ ?_; clear hK K
      refine PW.ret ⟨_, rfl, ?_⟩
      rw [lvr_yes (fun q hq' => hq q (by omega))]
      exact Fin.now

theorem lvr_ref (m : Mb) (H : Heap) (hl : m.lv.length = 384) : CallOk Tryz.prog 85 [.agg (mbc m)] H (.bool (lvr m.lv)) H := by
  obtain ⟨k, ua, ub, fp, fd, va, vb, vc, vd, ve, vf, vg, vh, sa, sb, sc, sd, dl, ca, cb, cc, cd, ce, cf, lv⟩ := m
  simp only at hl ⊢
  have hall := is_cell lv
  have hget : ∀ x : Nat, (.int .i64 k :: .bool ua :: .bool ub :: .bool fp :: .bool fd :: .int .i64 va :: .int .i64 vb :: .int .i64 vc :: .int .i64 vd :: .int .i64 ve :: .int .i64 vf :: .int .i64 vg :: .int .i64 vh :: .int .i64 sa :: .int .i64 sb :: .int .i64 sc :: .int .i64 sd :: .int .i64 dl :: .bool ca :: .bool cb :: .bool cc :: .bool cd :: .bool ce :: .bool cf :: is lv)[24 + x]? = (is lv)[x]? := fun x => by
    rw [show 24 + x = x + 24 by omega]
    simp only [List.getElem?_cons_succ]
  refine CallOk.body (F0 := [(0, .agg (.int .i64 k :: .bool ua :: .bool ub :: .bool fp :: .bool fd :: .int .i64 va :: .int .i64 vb :: .int .i64 vc :: .int .i64 vd :: .int .i64 ve :: .int .i64 vf :: .int .i64 vg :: .int .i64 vh :: .int .i64 sa :: .int .i64 sb :: .int .i64 sc :: .int .i64 sd :: .int .i64 dl :: .bool ca :: .bool cb :: .bool cc :: .bool cd :: .bool ce :: .bool cf :: is lv))]) Tryz.func85 rfl Tryz.ntmps85 Tryz.results85 rfl (by kernel_rfl) rfl ?_
  (repeat refine PW.seq ?_); refine PW.rg rfl fun K hK => ?_; simp (disch := omega) only [go_sem, ↓reduceIte, reduceCtorEq, pappend, plen, hall]; refine hK _ _ ?_; clear hK K; (repeat refine PW.seq ?_); refine PW.rg rfl fun K hK => ?_; simp (disch := omega) only [go_sem, ↓reduceIte, reduceCtorEq, pappend, plen]; refine hK _ _ ?_; clear hK K
  (repeat refine PW.seq ?_); refine PW.block (PW.loop ?_)
  suffices hloop : ∀ (n : Nat), n ≤ 6 → (∀ q, q < n * 64 → win (intAt lv q) 4095 = true) → PL Tryz.prog _ _ [(1, .ptr H.length 0 0), (3, .int .i64 (n : Int))] (H ++ [⟨50, 0, .int .i64 k :: .bool ua :: .bool ub :: .bool fp :: .bool fd :: .int .i64 va :: .int .i64 vb :: .int .i64 vc :: .int .i64 vd :: .int .i64 ve :: .int .i64 vf :: .int .i64 vg :: .int .i64 vh :: .int .i64 sa :: .int .i64 sb :: .int .i64 sc :: .int .i64 sd :: .int .i64 dl :: .bool ca :: .bool cb :: .bool cc :: .bool cd :: .bool ce :: .bool cf :: is lv⟩]) _ by
    exact PL.at [1, 3] (hloop 0 (by omega) (fun q hq => by omega)) rfl rfl
  intro n hn hq
  induction hm : 6 - n using Nat.strongRecOn generalizing n with
  | _ m ih =>
    refine PL.round ?_; (repeat refine PW.seq ?_); refine PW.rg rfl fun K hK => ?_; simp (disch := omega) only [go_sem, ↓reduceIte, reduceCtorEq, pappend, plen]; refine hK _ _ ?_; clear hK K
    (repeat refine PW.seq ?_); refine PW.cond (t := _) rfl (fun h => ?_) (fun h => ?_)
    · have h4 : n < 6 := by have := of_decide_eq_true h; omega
      have hnx := ih (6 - (n + 1)) (by omega) (n + 1) (by omega)
      refine PW.skip ?_
      (repeat refine PW.seq ?_); refine PW.block ?_
      (repeat refine PW.seq ?_); refine PW.rg rfl fun K hK => ?_; simp (disch := omega) only [go_sem, ↓reduceIte, reduceCtorEq, pappend, plen]; refine hK _ _ ?_; clear hK K
      (repeat refine PW.seq ?_); refine PW.block (PW.loop ?_)
      clear ih
      suffices hloop : ∀ (j : Nat), j ≤ 64 → (∀ q, q < n * 64 + j → win (intAt lv q) 4095 = true) → PL Tryz.prog _ _ [(1, .ptr H.length 0 0), (3, .int .i64 (n : Int)), (4, .int .i64 (j : Int))] (H ++ [⟨50, 0, .int .i64 k :: .bool ua :: .bool ub :: .bool fp :: .bool fd :: .int .i64 va :: .int .i64 vb :: .int .i64 vc :: .int .i64 vd :: .int .i64 ve :: .int .i64 vf :: .int .i64 vg :: .int .i64 vh :: .int .i64 sa :: .int .i64 sb :: .int .i64 sc :: .int .i64 sd :: .int .i64 dl :: .bool ca :: .bool cb :: .bool cc :: .bool cd :: .bool ce :: .bool cf :: is lv⟩]) _ by
        exact PL.at [1, 3, 4] (hloop 0 (by omega) (fun q hq' => hq q (by omega))) rfl rfl
      intro j hj hq2
      induction hm2 : 64 - j using Nat.strongRecOn generalizing j with
      | _ m2 ih =>
        refine PL.round ?_; (repeat refine PW.seq ?_); refine PW.rg rfl fun K hK => ?_; simp (disch := omega) only [go_sem, ↓reduceIte, reduceCtorEq, pappend, plen]; refine hK _ _ ?_; clear hK K
        (repeat refine PW.seq ?_); refine PW.cond (t := _) rfl (fun h => ?_) (fun h => ?_)
        · have h5 : j < 64 := by have := of_decide_eq_true h; omega
          have hw := fun H => win_ref (intAt lv (n * 64 + j)) H
          have hg2 : (.int .i64 k :: .bool ua :: .bool ub :: .bool fp :: .bool fd :: .int .i64 va :: .int .i64 vb :: .int .i64 vc :: .int .i64 vd :: .int .i64 ve :: .int .i64 vf :: .int .i64 vg :: .int .i64 vh :: .int .i64 sa :: .int .i64 sb :: .int .i64 sc :: .int .i64 sd :: .int .i64 dl :: .bool ca :: .bool cb :: .bool cc :: .bool cd :: .bool ce :: .bool cf :: is lv)[24 + n * 64 + j]? = some (.int .i64 (intAt lv (n * 64 + j))) := by
            rw [Nat.add_assoc, hget, is_get _ _ (by omega)]
          refine PW.skip ?_
          (repeat refine PW.seq ?_); refine PW.block ?_
          (repeat refine PW.seq ?_); refine PW.rg rfl fun K hK => ?_; simp (disch := omega) only [go_sem, ↓reduceIte, reduceCtorEq, pappend, plen, hg2]; refine VCx.call (hw _) rfl ?_; simp (disch := omega) only [go_sem, ↓reduceIte, reduceCtorEq, pappend, plen, hg2]; refine hK _ _ ?_; clear hK K
          (repeat refine PW.seq ?_); refine PW.cond (t := _) rfl (fun h => ?_) (fun h => ?_)
          · have h6 : win (intAt lv (n * 64 + j)) 4095 = false := by simpa using h
            (repeat refine PW.seq ?_); refine PW.rg rfl fun K hK => ?_; simp (disch := omega) only [go_sem, ↓reduceIte, reduceCtorEq, pappend, plen]; refine hK _ _ ?_; clear hK K
            refine PW.ret ⟨_, rfl, ?_⟩
            rw [lvr_no (q := n * 64 + j) (by omega) h6]
            exact Fin.base (.id (.bool _))
          · have h6 : win (intAt lv (n * 64 + j)) 4095 = true := by simpa using h
            refine PW.skip ?_
            (repeat refine PW.seq ?_); refine PW.rg rfl fun K hK => ?_; simp (disch := omega) only [go_sem, ↓reduceIte, reduceCtorEq, pappend, plen]; refine hK _ _ ?_; clear hK K
            refine PL.at [1, 3, 4] (ih (64 - (j + 1)) (by omega) (j + 1) (by omega) (fun q hq' => ?_) rfl) rfl rfl
            by_cases e : q = n * 64 + j
            · rw [e]; exact h6
            · exact hq2 q (by omega)
        · have h5 : j = 64 := by have := of_decide_eq_false h; omega
          subst h5
          refine PW.exit ?_
          (repeat refine PW.seq ?_); refine PW.rg rfl fun K hK => ?_; simp (disch := omega) only [go_sem, ↓reduceIte, reduceCtorEq, pappend, plen]; refine hK _ _ ?_; clear hK K
          exact PL.at [1, 3] (hnx (fun q hq' => hq2 q (by omega)) rfl) rfl rfl
    · have h4 : n = 6 := by have := of_decide_eq_false h; omega
      subst h4
      refine PW.exit ?_
      (repeat refine PW.seq ?_); refine PW.rg rfl fun K hK => ?_; simp (disch := omega) only [go_sem, ↓reduceIte, reduceCtorEq, pappend, plen]; refine hK _ _ ?_; clear hK K
      refine PW.ret ⟨_, rfl, ?_⟩
      rw [lvr_yes (fun q hq' => hq q (by omega))]
      exact Fin.base (.id (.bool _))

end Go.Proofs.YtahomnplappbpaaGreatDoor.Sc

namespace Go.Proofs.YtahomnplappbpaaGreatDoor.Sc
set_option linter.all false
set_option linter.unusedVariables false
set_option linter.unusedSimpArgs false
open Pm Ty Go.RowKit

/-- Has block n no levels? -/
def zbk (lv : List Int) (n : Nat) : Bool := (lv.drop (n * 64)).take 64 == List.replicate 64 0
def cdl (m : Mb) : List Bool := [m.ca, m.cb, m.cc, m.cd, m.ce, m.cf]
/-- Are exactly the coded blocks those with levels? -/
def fbl (cs : List Bool) (lv : List Int) : Bool := (List.range 6).all fun n => flagAt cs n != zbk lv n
theorem fbl_no {cs : List Bool} {lv : List Int} {q : Nat} (h : q < 6) (hw : flagAt cs q = zbk lv q) : fbl cs lv = false := by
  cases hc : fbl cs lv with
  | false => rfl
  | true =>
    have := List.all_eq_true.1 hc q (List.mem_range.2 h)
    rw [hw] at this; simp at this
theorem fbl_yes {cs : List Bool} {lv : List Int} (h : ∀ q, q < 6 → flagAt cs q ≠ zbk lv q) : fbl cs lv = true := List.all_eq_true.2 fun q hq => by
  have := h q (List.mem_range.1 hq)
  simpa using this

theorem fbl_ok (m : Mb) (i : Nat) (H : Heap) (hi : H[i]? = some (mB m)) (hl : m.lv.length = 384) : CallOk Tryz.prog 153 [.ptr i 0 0] H (.bool (fbl (cdl m) m.lv)) H := by
  obtain ⟨k, ua, ub, fp, fd, va, vb, vc, vd, ve, vf, vg, vh, sa, sb, sc, sd, dl, ca, cb, cc, cd, ce, cf, lv⟩ := m
  simp only [mB, mbc, cdl] at hi hl ⊢
  have hdrop : ∀ n : Nat, List.drop (24 + n * 64) (.int .i64 k :: .bool ua :: .bool ub :: .bool fp :: .bool fd :: .int .i64 va :: .int .i64 vb :: .int .i64 vc :: .int .i64 vd :: .int .i64 ve :: .int .i64 vf :: .int .i64 vg :: .int .i64 vh :: .int .i64 sa :: .int .i64 sb :: .int .i64 sc :: .int .i64 sd :: .int .i64 dl :: .bool ca :: .bool cb :: .bool cc :: .bool cd :: .bool ce :: .bool cf :: is lv) = is (lv.drop (n * 64)) := fun n => by
    rw [show 24 + n * 64 = n * 64 + 24 by omega]
    simp only [List.drop_succ_cons]
    exact is_drop _ _
  obtain ⟨cs, hcs⟩ : ∃ cs, cs = [ca, cb, cc, cd, ce, cf] := ⟨_, rfl⟩
  have hcl : cs.length = 6 := by rw [hcs]; rfl
  refine CallOk.body (F0 := [(0, .ptr i 0 0)]) Tryz.func153 rfl Tryz.ntmps153 Tryz.results153 rfl (by kernel_rfl) rfl ?_
  (repeat refine PW.seq ?_); refine PW.rg rfl fun K hK => ?_; simp (disch := omega) only [go_sem, ↓reduceIte, reduceCtorEq, pappend, plen]; refine hK _ _ ?_; clear hK K; (repeat refine PW.seq ?_); refine PW.rg rfl fun K hK => ?_; simp (disch := omega) only [go_sem, ↓reduceIte, reduceCtorEq, pappend, plen, hi]; refine hK _ _ ?_; clear hK K
  (repeat refine PW.seq ?_); refine PW.block (PW.loop ?_)
  rw [← hcs]
  suffices hloop : ∀ (n : Nat), n ≤ 6 → (∀ q, q < n → flagAt cs q ≠ zbk lv q) → PL Tryz.prog _ _ [(0, .ptr i 0 0), (8, .agg (fs cs)), (9, .int .i64 (n : Int))] H _ by
    exact PL.at [0, 8, 9] (hloop 0 (by omega) (fun q hq => by omega)) (by rw [hcs]; rfl) rfl
  clear hcs
  intro n hn hq
  induction hm : 6 - n using Nat.strongRecOn generalizing n with
  | _ m ih =>
    refine PL.round ?_; (repeat refine PW.seq ?_); refine PW.rg rfl fun K hK => ?_; simp (disch := omega) only [go_sem, ↓reduceIte, reduceCtorEq, pappend, plen]; refine hK _ _ ?_; clear hK K
    (repeat refine PW.seq ?_); refine PW.cond (t := _) rfl (fun h => ?_) (fun h => ?_)
    · have h4 : n < 6 := by have := of_decide_eq_true h; omega
      have hbl := blk_len lv n hl h4
      have hcel := is_cell ((lv.drop (n * 64)).take 64)
      have hnx := ih (6 - (n + 1)) (by omega) (n + 1) (by omega)
      have hzb : zbk lv n = ((lv.drop (n * 64)).take 64 == List.replicate 64 0) := rfl
      refine PW.skip ?_
      (repeat refine PW.seq ?_); refine PW.block ?_
      (repeat refine PW.seq ?_); refine PW.rg rfl fun K hK => ?_; simp (disch := omega) only [go_sem, ↓reduceIte, reduceCtorEq, pappend, plen, fs_get, fs_len, hcl]; refine hK _ _ ?_; clear hK K
      generalize hbb : (lv.drop (n * 64)).take 64 = bl at *
      have hpq : peqI (.int .i64) (is bl) [.int .i64 0, .int .i64 0, .int .i64 0, .int .i64 0, .int .i64 0, .int .i64 0, .int .i64 0, .int .i64 0, .int .i64 0, .int .i64 0, .int .i64 0, .int .i64 0, .int .i64 0, .int .i64 0, .int .i64 0, .int .i64 0, .int .i64 0, .int .i64 0, .int .i64 0, .int .i64 0, .int .i64 0, .int .i64 0, .int .i64 0, .int .i64 0, .int .i64 0, .int .i64 0, .int .i64 0, .int .i64 0, .int .i64 0, .int .i64 0, .int .i64 0, .int .i64 0, .int .i64 0, .int .i64 0, .int .i64 0, .int .i64 0, .int .i64 0, .int .i64 0, .int .i64 0, .int .i64 0, .int .i64 0, .int .i64 0, .int .i64 0, .int .i64 0, .int .i64 0, .int .i64 0, .int .i64 0, .int .i64 0, .int .i64 0, .int .i64 0, .int .i64 0, .int .i64 0, .int .i64 0, .int .i64 0, .int .i64 0, .int .i64 0, .int .i64 0, .int .i64 0, .int .i64 0, .int .i64 0, .int .i64 0, .int .i64 0, .int .i64 0, .int .i64 0] = some (bl == List.replicate 64 0) := peqI_is .i64 bl (List.replicate 64 0) (by rw [hbl]; simp)
      generalize (bl == List.replicate 64 0) = zz at *
      (repeat refine PW.seq ?_); refine PW.rg rfl fun K hK => ?_; simp (disch := omega) only [go_sem, ↓reduceIte, reduceCtorEq, pappend, plen, hi, hdrop, is_take, hbb, is_len, hbl, hcel, hpq]
      refine hK _ _ ?_; clear hK K
      (repeat refine PW.seq ?_); refine PW.cond (t := _) rfl (fun h => ?_) (fun h => ?_)
      · have h6 : flagAt cs n = zz := by simpa using h
        (repeat refine PW.seq ?_); refine PW.rg rfl fun K hK => ?_; simp (disch := omega) only [go_sem, ↓reduceIte, reduceCtorEq, pappend, plen]; refine hK _ _ ?_; clear hK K
        refine PW.ret ⟨_, rfl, ?_⟩
        rw [fbl_no h4 (by rw [hzb]; exact h6)]
        exact Fin.now
      · have h6 : flagAt cs n ≠ zz := by simpa using h
        refine PW.skip ?_
        (repeat refine PW.seq ?_); refine PW.rg rfl fun K hK => ?_; simp (disch := omega) only [go_sem, ↓reduceIte, reduceCtorEq, pappend, plen]; refine hK _ _ ?_; clear hK K
        refine PL.at [0, 8, 9] (hnx (fun q hq' => ?_) rfl) rfl rfl
        by_cases e : q = n
        · rw [e, hzb]; exact h6
        · exact hq q (by omega)
    · have h4 : n = 6 := by have := of_decide_eq_false h; omega
      subst h4
      refine PW.exit ?_
      (repeat refine PW.seq ?_); refine PW.rg rfl fun K hK => ?_; simp (disch := omega) only [go_sem, ↓reduceIte, reduceCtorEq, pappend, plen]; refine hK _ _ ?_; clear hK K
      refine PW.ret ⟨_, rfl, ?_⟩
      rw [fbl_yes hq]
      exact Fin.now

end Go.Proofs.YtahomnplappbpaaGreatDoor.Sc
