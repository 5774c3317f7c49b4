/-
  Parts of the proof, put together in one text. No condition.
-/
import Derived.Test.YtahomnplappbpaaGreatDoorW17
namespace Go.Proofs.YtahomnplappbpaaGreatDoor.Sc
set_option linter.all false
set_option linter.unusedVariables false
set_option linter.unusedSimpArgs false
open Pm Ty Go.RowKit

/-- Are the vectors and selects of a direction formed? -/
def dirS (c : Cx) (fp used : Bool) (a b d e p q : Int) : Bool :=
  if used then vrg a b && (vrg d e && ((decide (p = 0) || decide (p = 1)) && ((decide (q = 0) || decide (q = 1)) && ((fp || (decide (d = 0) && (decide (e = 0) && decide (q = 0)))) && (fp || (fcx c || decide (p = 0)))))))
  else decide (a = 0) && (decide (b = 0) && (decide (d = 0) && (decide (e = 0) && (decide (p = 0) && decide (q = 0)))))

theorem eqV2 (a b c d : Int) : peqG Tryz.prog .eql 42 (.agg [.int .i64 a, .int .i64 b, .int .i64 c, .int .i64 d]) (.agg [.int .i64 0, .int .i64 0, .int .i64 0, .int .i64 0]) = some (.bool (((a == 0) && ((b == 0) && true)) && (((c == 0) && ((d == 0) && true)) && true))) := by kernel_rfl
theorem neV (a b : Int) : peqG Tryz.prog .neq 41 (.agg [.int .i64 a, .int .i64 b]) (.agg [.int .i64 0, .int .i64 0]) = some (.bool !((a == 0) && ((b == 0) && true))) := by kernel_rfl
theorem eqI2 (a b : Int) : peqG Tryz.prog .eql 44 (.agg [.int .i64 a, .int .i64 b]) (.agg [.int .i64 0, .int .i64 0]) = some (.bool ((a == 0) && ((b == 0) && true))) := by kernel_rfl

set_option maxHeartbeats 3200000 in
set_option maxRecDepth 10000 in
theorem fdir0_ok (c : Cx) (m : Mb) (used : Bool) (i : Nat) (H : Heap) (hi : H[i]? = some (mB m)) : CallOk Tryz.prog 222 [.agg (cxc c), .ptr i 0 0, .int .i64 0, .bool used] H (.bool (dirS c m.fp used m.va m.vb m.vc m.vd m.sa m.sb)) H := by
  have hil : i < H.length := (List.getElem?_eq_some_iff.1 hi).1
  have hso := fun K => sel_ok c m i (H ++ K) (get_ext hi)
  obtain ⟨k, ua, ub, fp, fd, va, vb, vc, vd, ve, vf, vg, vh, sa, sb, sc, sd, dl, ca, cb, cc, cd, ce, cf, lv⟩ := m
  simp only [mB, mbc] at hi ⊢
  have hx := fun K => get_ext (K := K) hi
  generalize hr : dirS c fp used va vb vc vd sa sb = r
  simp only [dirS] at hr
  simp only at hso
  generalize fcx c = ff at hso hr
  obtain ⟨t, s, ii, n⟩ := c
  have dX : decide ("X" = "_") = false := by decide
  have dY : decide ("Y" = "_") = false := by decide
  have q1 := fun H => vrg_ok va vb H
  have q2 := fun H => vrg_ok vc vd H
  generalize vrg va vb = r1 at q1 hr
  generalize vrg vc vd = r2 at q2 hr
  refine CallOk.body (F0 := [(0, .agg [.int .i64 t, .int .i64 s, .bool ii, .bool n]), (1, .ptr i 0 0), (2, .int .i64 0), (3, .bool used)]) Tryz.func222 rfl Tryz.ntmps222 Tryz.results222 rfl (by kernel_rfl) rfl ?_
  (repeat refine PW.seq ?_); refine PW.rg rfl fun K hK => ?_; simp (disch := omega) only [go_sem, ↓reduceIte, reduceCtorEq, pappend, plen]; refine hK _ _ ?_; clear hK K
  (repeat refine PW.seq ?_)
  refine PW.view (Vs.place 42) (PW.view (Vs.place 44) ?_)
  (repeat refine PW.seq ?_); refine PW.drawh ([H.length + 1, H.length + 2]) ([(9, H.length + 1), (10, H.length + 2)]) mix (by kernel_rfl) (by simp <;> omega) fun K hK => ?_
  simp (disch := omega) only [go_sem, ↓reduceIte, reduceCtorEq, pappend, plen, hx]
  refine hK _ _ ?_; clear hK K
  (repeat refine PW.seq ?_); refine PW.rg rfl fun K hK => ?_; simp (disch := omega) only [go_sem, ↓reduceIte, reduceCtorEq, pappend, plen]; refine hK _ _ ?_; clear hK K
  (repeat refine PW.seq ?_); refine PW.cond (t := _) rfl (fun h => ?_) (fun h => ?_)
  · have hu : used = false := by simpa using h
    subst hu
    (repeat refine PW.seq ?_); refine PW.rg rfl fun K hK => ?_; simp (disch := omega) only [go_sem, ↓reduceIte, reduceCtorEq, pappend, plen, ↓eqV2, ↓neV, ↓eqI2]
    (repeat' ((first | refine VO_cond ?_ ?_ | refine VOd_cond ?_ ?_ | refine VOg_cond ?_ ?_ | refine VOh_cond ?_ ?_ | refine VOi_cond ?_ ?_ | refine And.intro ?_ ?_) <;> intro h <;> (try simp only [Bool.not_eq_true', Bool.not_eq_false', decide_eq_true_eq, decide_eq_false_iff_not] at h) <;> simp (disch := omega) only [go_sem, ↓reduceIte, reduceCtorEq, pappend, plen, ↓eqV2, ↓neV, ↓eqI2, h]))
    all_goals (refine hK _ _ ?_; (refine PW.ret ⟨_, rfl, ?_⟩; first | refine .inl ⟨?_, rfl⟩ | refine Fin.base (.id' ?_ (.bool _)) | refine Fin.base (.id' ?_ (.int _ _))); clear hK q1 q2 hso hi hx; subst hr; (simp_all [slot, Nat.beq] <;> first | rfl | omega | (rw [Bool.eq_iff_iff]; simp; done) | (rw [Bool.eq_iff_iff]; simp; omega)))
  have hu : used = true := by simpa using h
  subst hu
  refine PW.skip ?_
  (repeat refine PW.seq ?_)
  refine PW.rgv (P := Tryz.prog) [1, 4, 9, 10] 49 (.bool (!fp && (!(decide (vc = 0) && decide (vd = 0)) || !decide (sb = 0)))) ?_ ?_ ?_
  · rfl
  · simp (disch := omega) only [go_sem, ↓reduceIte, reduceCtorEq, pappend, plen, hx, ↓eqV2, ↓neV, ↓eqI2]
    (repeat' ((first | refine VO_cond ?_ ?_ | refine VOd_cond ?_ ?_ | refine VOg_cond ?_ ?_ | refine VOh_cond ?_ ?_ | refine VOi_cond ?_ ?_ | refine And.intro ?_ ?_) <;> intro h <;> (try simp only [Bool.not_eq_true', Bool.not_eq_false', decide_eq_true_eq, decide_eq_false_iff_not] at h) <;> simp (disch := omega) only [go_sem, ↓reduceIte, reduceCtorEq, pappend, plen, hx, ↓eqV2, ↓neV, ↓eqI2, h]))
    all_goals (clear q1 q2 hso hi hx hr; (simp_all [slot, Nat.beq] <;> first | rfl | omega | (rw [Bool.eq_iff_iff]; simp; done) | (rw [Bool.eq_iff_iff]; simp; omega)))
  (repeat refine PW.seq ?_); refine PW.cond (t := _) rfl (fun h => ?_) (fun h => ?_)
  · (repeat refine PW.seq ?_); refine PW.rg rfl fun K hK => ?_; simp (disch := omega) only [go_sem, ↓reduceIte, reduceCtorEq, pappend, plen]; refine hK _ _ ?_; clear hK K
    (refine PW.ret ⟨_, rfl, ?_⟩; first | refine .inl ⟨?_, rfl⟩ | refine Fin.base (.id' ?_ (.bool _)) | refine Fin.base (.id' ?_ (.int _ _)))
    clear q1 q2 hso hi hx; subst hr; (simp_all [slot, Nat.beq] <;> first | rfl | omega | (rw [Bool.eq_iff_iff]; simp; done) | (rw [Bool.eq_iff_iff]; simp; omega))
  refine PW.skip ?_
  (repeat refine PW.seq ?_)
  refine PW.rgv (P := Tryz.prog) [9, 10] 58 (.bool (!(fp || ff) && !decide (sa = 0))) ?_ ?_ ?_
  · rfl
  · simp (disch := omega) only [go_sem, ↓reduceIte, reduceCtorEq, pappend, plen]
    (repeat' (first | ((first | refine VO_cond ?_ ?_ | refine VOd_cond ?_ ?_ | refine VOg_cond ?_ ?_ | refine VOh_cond ?_ ?_ | refine VOi_cond ?_ ?_ | refine And.intro ?_ ?_) <;> intro h <;> (try simp only [Bool.not_eq_true', Bool.not_eq_false', decide_eq_true_eq, decide_eq_false_iff_not] at h) <;> simp (disch := omega) only [go_sem, ↓reduceIte, reduceCtorEq, pappend, plen, hx, h]) | ((first | refine VCx.call (hso _) rfl ?_ | refine VCy.call (hso _) rfl ?_ | refine VCz.call (fun _ => hso _) rfl ?_ | refine VCk.call (fun _ _ => hso _) rfl ?_ | refine VCj.now (hso _) rfl ?_); simp (disch := omega) only [go_sem, ↓reduceIte, reduceCtorEq, pappend, plen, hx])))
    all_goals (clear q1 q2 hso hi hx hr; (simp_all [slot, Nat.beq] <;> first | rfl | omega | (rw [Bool.eq_iff_iff]; simp; done) | (rw [Bool.eq_iff_iff]; simp; omega)))
  (repeat refine PW.seq ?_); refine PW.cond (t := _) rfl (fun h => ?_) (fun h => ?_)
  · (repeat refine PW.seq ?_); refine PW.rg rfl fun K hK => ?_; simp (disch := omega) only [go_sem, ↓reduceIte, reduceCtorEq, pappend, plen]; refine hK _ _ ?_; clear hK K
    (refine PW.ret ⟨_, rfl, ?_⟩; first | refine .inl ⟨?_, rfl⟩ | refine Fin.base (.id' ?_ (.bool _)) | refine Fin.base (.id' ?_ (.int _ _)))
    clear q1 q2 hso hi hx; subst hr; (simp_all [slot, Nat.beq] <;> first | rfl | omega | (rw [Bool.eq_iff_iff]; simp; done) | (rw [Bool.eq_iff_iff]; simp; omega))
  refine PW.skip ?_
  (repeat refine PW.seq ?_); refine PW.rg rfl fun K hK => ?_; simp (disch := omega) only [go_sem, ↓reduceIte, reduceCtorEq, pappend, plen]; refine hK _ _ ?_; clear hK K
  (repeat refine PW.seq ?_); refine PW.block (PW.loop ?_)
  have hr9 : r = (r1 && (r2 && ((decide (sa = 0) || decide (sa = 1)) && (decide (sb = 0) || decide (sb = 1))))) := by
    rename_i hz1 hz2
    clear q1 q2 hso hi hx
    subst hr
    cases fp <;> cases ff <;> simp_all
  suffices h1 : (r1 && (decide (sa = 0) || decide (sa = 1))) = true → PL Tryz.prog _ _ [(9, .ptr (H.length + 1) 1 0), (10, .ptr (H.length + 2) 1 0), (59, .int .i64 1)] (H ++ [⟨104, 0, [.int .i64 t, .int .i64 s, .bool ii, .bool n]⟩, ⟨42, 1, [.int .i64 va, .int .i64 vb, .int .i64 vc, .int .i64 vd]⟩, ⟨44, 1, [.int .i64 sa, .int .i64 sb]⟩]) _ by
    refine PL.round ?_; (repeat refine PW.seq ?_); refine PW.rg rfl fun K hK => ?_; simp (disch := omega) only [go_sem, ↓reduceIte, reduceCtorEq, pappend, plen]; refine hK _ _ ?_; clear hK K
    (repeat refine PW.seq ?_); refine PW.cond (t := _) rfl (fun h => ?_) (fun h => ?_)
    · refine PW.skip ?_
      (repeat refine PW.seq ?_); refine PW.block ?_
      (repeat refine PW.seq ?_); refine PW.rg rfl fun K hK => ?_; simp (disch := omega) only [go_sem, ↓reduceIte, reduceCtorEq, pappend, plen]; refine hK _ _ ?_; clear hK K
      (repeat refine PW.seq ?_)
      refine PW.rgv (P := Tryz.prog) [9, 10, 59] 78 (.bool (!(r1 && (decide (sa = 0) || decide (sa = 1))))) ?_ ?_ ?_
      · rfl
      rotate_left
      · (repeat refine PW.seq ?_); refine PW.cond (t := _) rfl (fun h => ?_) (fun h => ?_)
        rotate_left
        · have hb : (r1 && (decide (sa = 0) || decide (sa = 1))) = true := by simpa only [Bool.not_eq_false'] using h
          refine PW.skip ?_
          (repeat refine PW.seq ?_); refine PW.rg rfl fun K hK => ?_; simp (disch := omega) only [go_sem, ↓reduceIte, reduceCtorEq, pappend, plen]; refine hK _ _ ?_; clear hK K
          exact PL.at [9, 10, 59] (h1 hb) rfl rfl
        · have hb : (r1 && (decide (sa = 0) || decide (sa = 1))) = false := by simpa only [Bool.not_eq_true'] using h
          (repeat refine PW.seq ?_); refine PW.rg rfl fun K hK => ?_; simp (disch := omega) only [go_sem, ↓reduceIte, reduceCtorEq, pappend, plen]; refine hK _ _ ?_; clear hK K
          (refine PW.ret ⟨_, rfl, ?_⟩; first | refine .inl ⟨?_, rfl⟩ | refine Fin.base (.id' ?_ (.bool _)) | refine Fin.base (.id' ?_ (.int _ _)))
          rw [hr9]
          clear h1 q1 q2 hso hi hx hr hr9
          cases r1 <;> simp_all [slot, Nat.beq]
      · clear h1
        cases r1 <;> simp (disch := omega) only [go_sem, ↓reduceIte, reduceCtorEq, pappend, plen] <;> (repeat' (first | ((first | refine VO_cond ?_ ?_ | refine VOd_cond ?_ ?_ | refine VOg_cond ?_ ?_ | refine VOh_cond ?_ ?_ | refine VOi_cond ?_ ?_ | refine And.intro ?_ ?_) <;> intro h <;> (try simp only [Bool.not_eq_true', Bool.not_eq_false', decide_eq_true_eq, decide_eq_false_iff_not] at h) <;> simp (disch := omega) only [go_sem, ↓reduceIte, reduceCtorEq, pappend, plen, h]) | ((first | refine VCx.call (q1 _) rfl ?_ | refine VCy.call (q1 _) rfl ?_ | refine VCz.call (fun _ => q1 _) rfl ?_ | refine VCk.call (fun _ _ => q1 _) rfl ?_ | refine VCj.now (q1 _) rfl ?_); simp (disch := omega) only [go_sem, ↓reduceIte, reduceCtorEq, pappend, plen])))
        all_goals (clear q1 q2 hso hi hx hr hr9; (simp_all [slot, Nat.beq] <;> first | rfl | omega | (rw [Bool.eq_iff_iff]; simp; done) | (rw [Bool.eq_iff_iff]; simp; omega)))
    · cases h
  intro hb1
  refine PL.round ?_; (repeat refine PW.seq ?_); refine PW.rg rfl fun K hK => ?_; simp (disch := omega) only [go_sem, ↓reduceIte, reduceCtorEq, pappend, plen]; refine hK _ _ ?_; clear hK K
  (repeat refine PW.seq ?_); refine PW.cond (t := _) rfl (fun h => ?_) (fun h => ?_)
  · refine PW.skip ?_
    (repeat refine PW.seq ?_); refine PW.block ?_
    (repeat refine PW.seq ?_); refine PW.rg rfl fun K hK => ?_; simp (disch := omega) only [go_sem, ↓reduceIte, reduceCtorEq, pappend, plen]; refine hK _ _ ?_; clear hK K
    (repeat refine PW.seq ?_)
    refine PW.rgv (P := Tryz.prog) [9, 10, 59] 78 (.bool (!(r2 && (decide (sb = 0) || decide (sb = 1))))) ?_ ?_ ?_
    · rfl
    · cases r2 <;> simp (disch := omega) only [go_sem, ↓reduceIte, reduceCtorEq, pappend, plen] <;> (repeat' (first | ((first | refine VO_cond ?_ ?_ | refine VOd_cond ?_ ?_ | refine VOg_cond ?_ ?_ | refine VOh_cond ?_ ?_ | refine VOi_cond ?_ ?_ | refine And.intro ?_ ?_) <;> intro h <;> (try simp only [Bool.not_eq_true', Bool.not_eq_false', decide_eq_true_eq, decide_eq_false_iff_not] at h) <;> simp (disch := omega) only [go_sem, ↓reduceIte, reduceCtorEq, pappend, plen, h]) | ((first | refine VCx.call (q2 _) rfl ?_ | refine VCy.call (q2 _) rfl ?_ | refine VCz.call (fun _ => q2 _) rfl ?_ | refine VCk.call (fun _ _ => q2 _) rfl ?_ | refine VCj.now (q2 _) rfl ?_); simp (disch := omega) only [go_sem, ↓reduceIte, reduceCtorEq, pappend, plen])))
      all_goals (clear q1 q2 hso hi hx hr hr9; (simp_all [slot, Nat.beq] <;> first | rfl | omega | (rw [Bool.eq_iff_iff]; simp; done) | (rw [Bool.eq_iff_iff]; simp; omega)))
    (repeat refine PW.seq ?_); refine PW.cond (t := _) rfl (fun h => ?_) (fun h => ?_)
    · have hb : (r2 && (decide (sb = 0) || decide (sb = 1))) = false := by simpa only [Bool.not_eq_true'] using h
      (repeat refine PW.seq ?_); refine PW.rg rfl fun K hK => ?_; simp (disch := omega) only [go_sem, ↓reduceIte, reduceCtorEq, pappend, plen]; refine hK _ _ ?_; clear hK K
      (refine PW.ret ⟨_, rfl, ?_⟩; first | refine .inl ⟨?_, rfl⟩ | refine Fin.base (.id' ?_ (.bool _)) | refine Fin.base (.id' ?_ (.int _ _)))
      rw [hr9]
      clear q1 q2 hso hi hx hr hr9
      cases r1 <;> cases r2 <;> simp_all [slot, Nat.beq]
    · have hb : (r2 && (decide (sb = 0) || decide (sb = 1))) = true := by simpa only [Bool.not_eq_false'] using h
      refine PW.skip ?_
      (repeat refine PW.seq ?_); refine PW.rg rfl fun K hK => ?_; simp (disch := omega) only [go_sem, ↓reduceIte, reduceCtorEq, pappend, plen]; refine hK _ _ ?_; clear hK K
      refine PL.round ?_; (repeat refine PW.seq ?_); refine PW.rg rfl fun K hK => ?_; simp (disch := omega) only [go_sem, ↓reduceIte, reduceCtorEq, pappend, plen]; refine hK _ _ ?_; clear hK K
      (repeat refine PW.seq ?_); refine PW.cond (t := _) rfl (fun h => ?_) (fun h => ?_)
      · cases h
      refine PW.exit ?_
      (repeat refine PW.seq ?_); refine PW.rg rfl fun K hK => ?_; simp (disch := omega) only [go_sem, ↓reduceIte, reduceCtorEq, pappend, plen]; refine hK _ _ ?_; clear hK K
      (refine PW.ret ⟨_, rfl, ?_⟩; first | refine .inl ⟨?_, rfl⟩ | refine Fin.base (.id' ?_ (.bool _)) | refine Fin.base (.id' ?_ (.int _ _)))
      rw [hr9]
      clear q1 q2 hso hi hx hr hr9
      cases r1 <;> cases r2 <;> simp_all [slot, Nat.beq]
  · cases h

set_option maxHeartbeats 3200000 in
set_option maxRecDepth 10000 in
theorem fdir1_ok (c : Cx) (m : Mb) (used : Bool) (i : Nat) (H : Heap) (hi : H[i]? = some (mB m)) : CallOk Tryz.prog 222 [.agg (cxc c), .ptr i 0 0, .int .i64 1, .bool used] H (.bool (dirS c m.fp used m.ve m.vf m.vg m.vh m.sc m.sd)) H := by
  have hil : i < H.length := (List.getElem?_eq_some_iff.1 hi).1
  have hso := fun K => sel_ok c m i (H ++ K) (get_ext hi)
  obtain ⟨k, ua, ub, fp, fd, va, vb, vc, vd, ve, vf, vg, vh, sa, sb, sc, sd, dl, ca, cb, cc, cd, ce, cf, lv⟩ := m
  simp only [mB, mbc] at hi ⊢
  have hx := fun K => get_ext (K := K) hi
  generalize hr : dirS c fp used ve vf vg vh sc sd = r
  simp only [dirS] at hr
  simp only at hso
  generalize fcx c = ff at hso hr
  obtain ⟨t, s, ii, n⟩ := c
  have dX : decide ("X" = "_") = false := by decide
  have dY : decide ("Y" = "_") = false := by decide
  have q1 := fun H => vrg_ok ve vf H
  have q2 := fun H => vrg_ok vg vh H
  generalize vrg ve vf = r1 at q1 hr
  generalize vrg vg vh = r2 at q2 hr
  refine CallOk.body (F0 := [(0, .agg [.int .i64 t, .int .i64 s, .bool ii, .bool n]), (1, .ptr i 0 0), (2, .int .i64 1), (3, .bool used)]) Tryz.func222 rfl Tryz.ntmps222 Tryz.results222 rfl (by kernel_rfl) rfl ?_
  (repeat refine PW.seq ?_); refine PW.rg rfl fun K hK => ?_; simp (disch := omega) only [go_sem, ↓reduceIte, reduceCtorEq, pappend, plen]; refine hK _ _ ?_; clear hK K
  (repeat refine PW.seq ?_)
  refine PW.view (Vs.place 42) (PW.view (Vs.place 44) ?_)
  (repeat refine PW.seq ?_); refine PW.drawh ([H.length + 1, H.length + 2]) ([(9, H.length + 1), (10, H.length + 2)]) mix (by kernel_rfl) (by simp <;> omega) fun K hK => ?_
  simp (disch := omega) only [go_sem, ↓reduceIte, reduceCtorEq, pappend, plen, hx]
  refine hK _ _ ?_; clear hK K
  (repeat refine PW.seq ?_); refine PW.rg rfl fun K hK => ?_; simp (disch := omega) only [go_sem, ↓reduceIte, reduceCtorEq, pappend, plen]; refine hK _ _ ?_; clear hK K
  (repeat refine PW.seq ?_); refine PW.cond (t := _) rfl (fun h => ?_) (fun h => ?_)
  · have hu : used = false := by simpa using h
    subst hu
    (repeat refine PW.seq ?_); refine PW.rg rfl fun K hK => ?_; simp (disch := omega) only [go_sem, ↓reduceIte, reduceCtorEq, pappend, plen, ↓eqV2, ↓neV, ↓eqI2]
    (repeat' ((first | refine VO_cond ?_ ?_ | refine VOd_cond ?_ ?_ | refine VOg_cond ?_ ?_ | refine VOh_cond ?_ ?_ | refine VOi_cond ?_ ?_ | refine And.intro ?_ ?_) <;> intro h <;> (try simp only [Bool.not_eq_true', Bool.not_eq_false', decide_eq_true_eq, decide_eq_false_iff_not] at h) <;> simp (disch := omega) only [go_sem, ↓reduceIte, reduceCtorEq, pappend, plen, ↓eqV2, ↓neV, ↓eqI2, h]))
    all_goals (refine hK _ _ ?_; (refine PW.ret ⟨_, rfl, ?_⟩; first | refine .inl ⟨?_, rfl⟩ | refine Fin.base (.id' ?_ (.bool _)) | refine Fin.base (.id' ?_ (.int _ _))); clear hK q1 q2 hso hi hx; subst hr; (simp_all [slot, Nat.beq] <;> first | rfl | omega | (rw [Bool.eq_iff_iff]; simp; done) | (rw [Bool.eq_iff_iff]; simp; omega)))
  have hu : used = true := by simpa using h
  subst hu
  refine PW.skip ?_
  (repeat refine PW.seq ?_)
  refine PW.rgv (P := Tryz.prog) [1, 4, 9, 10] 49 (.bool (!fp && (!(decide (vg = 0) && decide (vh = 0)) || !decide (sd = 0)))) ?_ ?_ ?_
  · rfl
  · simp (disch := omega) only [go_sem, ↓reduceIte, reduceCtorEq, pappend, plen, hx, ↓eqV2, ↓neV, ↓eqI2]
    (repeat' ((first | refine VO_cond ?_ ?_ | refine VOd_cond ?_ ?_ | refine VOg_cond ?_ ?_ | refine VOh_cond ?_ ?_ | refine VOi_cond ?_ ?_ | refine And.intro ?_ ?_) <;> intro h <;> (try simp only [Bool.not_eq_true', Bool.not_eq_false', decide_eq_true_eq, decide_eq_false_iff_not] at h) <;> simp (disch := omega) only [go_sem, ↓reduceIte, reduceCtorEq, pappend, plen, hx, ↓eqV2, ↓neV, ↓eqI2, h]))
    all_goals (clear q1 q2 hso hi hx hr; (simp_all [slot, Nat.beq] <;> first | rfl | omega | (rw [Bool.eq_iff_iff]; simp; done) | (rw [Bool.eq_iff_iff]; simp; omega)))
  (repeat refine PW.seq ?_); refine PW.cond (t := _) rfl (fun h => ?_) (fun h => ?_)
  · (repeat refine PW.seq ?_); refine PW.rg rfl fun K hK => ?_; simp (disch := omega) only [go_sem, ↓reduceIte, reduceCtorEq, pappend, plen]; refine hK _ _ ?_; clear hK K
    (refine PW.ret ⟨_, rfl, ?_⟩; first | refine .inl ⟨?_, rfl⟩ | refine Fin.base (.id' ?_ (.bool _)) | refine Fin.base (.id' ?_ (.int _ _)))
    clear q1 q2 hso hi hx; subst hr; (simp_all [slot, Nat.beq] <;> first | rfl | omega | (rw [Bool.eq_iff_iff]; simp; done) | (rw [Bool.eq_iff_iff]; simp; omega))
  refine PW.skip ?_
  (repeat refine PW.seq ?_)
  refine PW.rgv (P := Tryz.prog) [9, 10] 58 (.bool (!(fp || ff) && !decide (sc = 0))) ?_ ?_ ?_
  · rfl
  · simp (disch := omega) only [go_sem, ↓reduceIte, reduceCtorEq, pappend, plen]
    (repeat' (first | ((first | refine VO_cond ?_ ?_ | refine VOd_cond ?_ ?_ | refine VOg_cond ?_ ?_ | refine VOh_cond ?_ ?_ | refine VOi_cond ?_ ?_ | refine And.intro ?_ ?_) <;> intro h <;> (try simp only [Bool.not_eq_true', Bool.not_eq_false', decide_eq_true_eq, decide_eq_false_iff_not] at h) <;> simp (disch := omega) only [go_sem, ↓reduceIte, reduceCtorEq, pappend, plen, hx, h]) | ((first | refine VCx.call (hso _) rfl ?_ | refine VCy.call (hso _) rfl ?_ | refine VCz.call (fun _ => hso _) rfl ?_ | refine VCk.call (fun _ _ => hso _) rfl ?_ | refine VCj.now (hso _) rfl ?_); simp (disch := omega) only [go_sem, ↓reduceIte, reduceCtorEq, pappend, plen, hx])))
    all_goals (clear q1 q2 hso hi hx hr; (simp_all [slot, Nat.beq] <;> first | rfl | omega | (rw [Bool.eq_iff_iff]; simp; done) | (rw [Bool.eq_iff_iff]; simp; omega)))
  (repeat refine PW.seq ?_); refine PW.cond (t := _) rfl (fun h => ?_) (fun h => ?_)
  · (repeat refine PW.seq ?_); refine PW.rg rfl fun K hK => ?_; simp (disch := omega) only [go_sem, ↓reduceIte, reduceCtorEq, pappend, plen]; refine hK _ _ ?_; clear hK K
    (refine PW.ret ⟨_, rfl, ?_⟩; first | refine .inl ⟨?_, rfl⟩ | refine Fin.base (.id' ?_ (.bool _)) | refine Fin.base (.id' ?_ (.int _ _)))
    clear q1 q2 hso hi hx; subst hr; (simp_all [slot, Nat.beq] <;> first | rfl | omega | (rw [Bool.eq_iff_iff]; simp; done) | (rw [Bool.eq_iff_iff]; simp; omega))
  refine PW.skip ?_
  (repeat refine PW.seq ?_); refine PW.rg rfl fun K hK => ?_; simp (disch := omega) only [go_sem, ↓reduceIte, reduceCtorEq, pappend, plen]; refine hK _ _ ?_; clear hK K
  (repeat refine PW.seq ?_); refine PW.block (PW.loop ?_)
  have hr9 : r = (r1 && (r2 && ((decide (sc = 0) || decide (sc = 1)) && (decide (sd = 0) || decide (sd = 1))))) := by
    rename_i hz1 hz2
    clear q1 q2 hso hi hx
    subst hr
    cases fp <;> cases ff <;> simp_all
  suffices h1 : (r1 && (decide (sc = 0) || decide (sc = 1))) = true → PL Tryz.prog _ _ [(9, .ptr (H.length + 1) 1 0), (10, .ptr (H.length + 2) 1 0), (59, .int .i64 1)] (H ++ [⟨104, 0, [.int .i64 t, .int .i64 s, .bool ii, .bool n]⟩, ⟨42, 1, [.int .i64 ve, .int .i64 vf, .int .i64 vg, .int .i64 vh]⟩, ⟨44, 1, [.int .i64 sc, .int .i64 sd]⟩]) _ by
    refine PL.round ?_; (repeat refine PW.seq ?_); refine PW.rg rfl fun K hK => ?_; simp (disch := omega) only [go_sem, ↓reduceIte, reduceCtorEq, pappend, plen]; refine hK _ _ ?_; clear hK K
    (repeat refine PW.seq ?_); refine PW.cond (t := _) rfl (fun h => ?_) (fun h => ?_)
    · refine PW.skip ?_
      (repeat refine PW.seq ?_); refine PW.block ?_
      (repeat refine PW.seq ?_); refine PW.rg rfl fun K hK => ?_; simp (disch := omega) only [go_sem, ↓reduceIte, reduceCtorEq, pappend, plen]; refine hK _ _ ?_; clear hK K
      (repeat refine PW.seq ?_)
      refine PW.rgv (P := Tryz.prog) [9, 10, 59] 78 (.bool (!(r1 && (decide (sc = 0) || decide (sc = 1))))) ?_ ?_ ?_
      · rfl
      rotate_left
      · (repeat refine PW.seq ?_); refine PW.cond (t := _) rfl (fun h => ?_) (fun h => ?_)
        rotate_left
        · have hb : (r1 && (decide (sc = 0) || decide (sc = 1))) = true := by simpa only [Bool.not_eq_false'] using h
          refine PW.skip ?_
          (repeat refine PW.seq ?_); refine PW.rg rfl fun K hK => ?_; simp (disch := omega) only [go_sem, ↓reduceIte, reduceCtorEq, pappend, plen]; refine hK _ _ ?_; clear hK K
          exact PL.at [9, 10, 59] (h1 hb) rfl rfl
        · have hb : (r1 && (decide (sc = 0) || decide (sc = 1))) = false := by simpa only [Bool.not_eq_true'] using h
          (repeat refine PW.seq ?_); refine PW.rg rfl fun K hK => ?_; simp (disch := omega) only [go_sem, ↓reduceIte, reduceCtorEq, pappend, plen]; refine hK _ _ ?_; clear hK K
          (refine PW.ret ⟨_, rfl, ?_⟩; first | refine .inl ⟨?_, rfl⟩ | refine Fin.base (.id' ?_ (.bool _)) | refine Fin.base (.id' ?_ (.int _ _)))
          rw [hr9]
          clear h1 q1 q2 hso hi hx hr hr9
          cases r1 <;> simp_all [slot, Nat.beq]
      · clear h1
        cases r1 <;> simp (disch := omega) only [go_sem, ↓reduceIte, reduceCtorEq, pappend, plen] <;> (repeat' (first | ((first | refine VO_cond ?_ ?_ | refine VOd_cond ?_ ?_ | refine VOg_cond ?_ ?_ | refine VOh_cond ?_ ?_ | refine VOi_cond ?_ ?_ | refine And.intro ?_ ?_) <;> intro h <;> (try simp only [Bool.not_eq_true', Bool.not_eq_false', decide_eq_true_eq, decide_eq_false_iff_not] at h) <;> simp (disch := omega) only [go_sem, ↓reduceIte, reduceCtorEq, pappend, plen, h]) | ((first | refine VCx.call (q1 _) rfl ?_ | refine VCy.call (q1 _) rfl ?_ | refine VCz.call (fun _ => q1 _) rfl ?_ | refine VCk.call (fun _ _ => q1 _) rfl ?_ | refine VCj.now (q1 _) rfl ?_); simp (disch := omega) only [go_sem, ↓reduceIte, reduceCtorEq, pappend, plen])))
        all_goals (clear q1 q2 hso hi hx hr hr9; (simp_all [slot, Nat.beq] <;> first | rfl | omega | (rw [Bool.eq_iff_iff]; simp; done) | (rw [Bool.eq_iff_iff]; simp; omega)))
    · cases h
  intro hb1
  refine PL.round ?_; (repeat refine PW.seq ?_); refine PW.rg rfl fun K hK => ?_; simp (disch := omega) only [go_sem, ↓reduceIte, reduceCtorEq, pappend, plen]; refine hK _ _ ?_; clear hK K
  (repeat refine PW.seq ?_); refine PW.cond (t := _) rfl (fun h => ?_) (fun h => ?_)
  · refine PW.skip ?_
    (repeat refine PW.seq ?_); refine PW.block ?_
    (repeat refine PW.seq ?_); refine PW.rg rfl fun K hK => ?_; simp (disch := omega) only [go_sem, ↓reduceIte, reduceCtorEq, pappend, plen]; refine hK _ _ ?_; clear hK K
    (repeat refine PW.seq ?_)
    refine PW.rgv (P := Tryz.prog) [9, 10, 59] 78 (.bool (!(r2 && (decide (sd = 0) || decide (sd = 1))))) ?_ ?_ ?_
    · rfl
    · cases r2 <;> simp (disch := omega) only [go_sem, ↓reduceIte, reduceCtorEq, pappend, plen] <;> (repeat' (first | ((first | refine VO_cond ?_ ?_ | refine VOd_cond ?_ ?_ | refine VOg_cond ?_ ?_ | refine VOh_cond ?_ ?_ | refine VOi_cond ?_ ?_ | refine And.intro ?_ ?_) <;> intro h <;> (try simp only [Bool.not_eq_true', Bool.not_eq_false', decide_eq_true_eq, decide_eq_false_iff_not] at h) <;> simp (disch := omega) only [go_sem, ↓reduceIte, reduceCtorEq, pappend, plen, h]) | ((first | refine VCx.call (q2 _) rfl ?_ | refine VCy.call (q2 _) rfl ?_ | refine VCz.call (fun _ => q2 _) rfl ?_ | refine VCk.call (fun _ _ => q2 _) rfl ?_ | refine VCj.now (q2 _) rfl ?_); simp (disch := omega) only [go_sem, ↓reduceIte, reduceCtorEq, pappend, plen])))
      all_goals (clear q1 q2 hso hi hx hr hr9; (simp_all [slot, Nat.beq] <;> first | rfl | omega | (rw [Bool.eq_iff_iff]; simp; done) | (rw [Bool.eq_iff_iff]; simp; omega)))
    (repeat refine PW.seq ?_); refine PW.cond (t := _) rfl (fun h => ?_) (fun h => ?_)
    · have hb : (r2 && (decide (sd = 0) || decide (sd = 1))) = false := by simpa only [Bool.not_eq_true'] using h
      (repeat refine PW.seq ?_); refine PW.rg rfl fun K hK => ?_; simp (disch := omega) only [go_sem, ↓reduceIte, reduceCtorEq, pappend, plen]; refine hK _ _ ?_; clear hK K
      (refine PW.ret ⟨_, rfl, ?_⟩; first | refine .inl ⟨?_, rfl⟩ | refine Fin.base (.id' ?_ (.bool _)) | refine Fin.base (.id' ?_ (.int _ _)))
      rw [hr9]
      clear q1 q2 hso hi hx hr hr9
      cases r1 <;> cases r2 <;> simp_all [slot, Nat.beq]
    · have hb : (r2 && (decide (sd = 0) || decide (sd = 1))) = true := by simpa only [Bool.not_eq_false'] using h
      refine PW.skip ?_
      (repeat refine PW.seq ?_); refine PW.rg rfl fun K hK => ?_; simp (disch := omega) only [go_sem, ↓reduceIte, reduceCtorEq, pappend, plen]; refine hK _ _ ?_; clear hK K
      refine PL.round ?_; (repeat refine PW.seq ?_); refine PW.rg rfl fun K hK => ?_; simp (disch := omega) only [go_sem, ↓reduceIte, reduceCtorEq, pappend, plen]; refine hK _ _ ?_; clear hK K
      (repeat refine PW.seq ?_); refine PW.cond (t := _) rfl (fun h => ?_) (fun h => ?_)
      · cases h
      refine PW.exit ?_
      (repeat refine PW.seq ?_); refine PW.rg rfl fun K hK => ?_; simp (disch := omega) only [go_sem, ↓reduceIte, reduceCtorEq, pappend, plen]; refine hK _ _ ?_; clear hK K
      (refine PW.ret ⟨_, rfl, ?_⟩; first | refine .inl ⟨?_, rfl⟩ | refine Fin.base (.id' ?_ (.bool _)) | refine Fin.base (.id' ?_ (.int _ _)))
      rw [hr9]
      clear q1 q2 hso hi hx hr hr9
      cases r1 <;> cases r2 <;> simp_all [slot, Nat.beq]
  · cases h

end Go.Proofs.YtahomnplappbpaaGreatDoor.Sc
