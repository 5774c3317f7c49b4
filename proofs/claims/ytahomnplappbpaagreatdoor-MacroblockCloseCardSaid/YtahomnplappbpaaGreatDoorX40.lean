/-
  Parts of the proof, put together in one text. No condition.
-/
import Derived.Test.YtahomnplappbpaaGreatDoorX39
import Derived.Test.YtahomnplappbpaaGreatDoorX27
namespace Go.Proofs.YtahomnplappbpaaGreatDoor.Sc
set_option linter.all false
set_option linter.unusedVariables false
set_option linter.unusedSimpArgs false
open Pm Ty Go.RowKit

theorem fm_zero {c : Cx} {m : Mb} (h : fmS c m = true) (hk : m.k = 0) : selB m := by
  unfold fmS at h
  rw [Bool.and_eq_true, if_pos hk, Bool.and_eq_true] at h
  have hz := h.2.2
  obtain ⟨k, ua, ub, fp, fd, va, vb, vc, vd, ve, vf, vg, vh, sa, sb, sc, sd, dl, ca, cb, cc, cd, ce, cf, lv⟩ := m
  unfold zmb zA at hz
  simp only [Bool.and_eq_true, beq_iff_eq] at hz
  refine ⟨.inl ?_, .inl ?_, .inl ?_, .inl ?_⟩ <;> simp_all
theorem fm_sel {c : Cx} {m : Mb} (h : fmS c m = true) (hk : m.k ≠ 1) : selB m := by
  rcases fm_k h with h0 | h1 | h2
  · exact fm_zero h h0
  · exact absurd h1 hk
  · exact (fm_two h h2).2.1

theorem lightC_ok (a b : Fm) (H : Heap) : CallOk Tryz.prog 13 [.agg (fmc a ++ (fmc b ++ [PV.int .i64 0, PV.int .i64 0, PV.slice [] 0 true, PV.slice [] 0 true, PV.slice [] 0 true]))] H (.bool (lightB a b f0)) H := by
  refine (light_ok a b f0 []).borrow ?_ (.bool _)
  refine ⟨Fz.aggC ?_, trivial⟩
  exact ⟨.id (.int _ _), .id (.int _ _), .id (sl_scoped (bs_scoped _ _)), .id (sl_scoped (bs_scoped _ _)), .id (sl_scoped (bs_scoped _ _)), .id (.int _ _), .id (.int _ _), .id (sl_scoped (bs_scoped _ _)), .id (sl_scoped (bs_scoped _ _)), .id (sl_scoped (bs_scoped _ _)), .id (.int _ _), .id (.int _ _), .slice rfl (fun j x y hx => by simp at hx) (fun e => by cases e), .slice rfl (fun j x y hx => by simp at hx) (fun e => by cases e), .slice rfl (fun j x y hx => by simp at hx) (fun e => by cases e), trivial⟩

set_option maxHeartbeats 3200000 in
set_option maxRecDepth 100000 in
theorem law_close (c : Cx) (s : Sq) (al : Bool) (q : Int) (m : Mb) (pa fu fi pa' fu' : Fm) (X Y : Int) (hc : Cok s m) (H : Heap) :
    CallOk Tryz.prog 7 [.agg (csc c s al q m pa fu fi X Y), .agg (fmc pa'), .agg (fmc fu')] H (.bool true) H := by
  have lc := fun L => light_ok pa fu fi L
  change ∀ L, CallOk _ _ [.agg (rfs pa fu fi)] L _ L at lc
  have ld := fun L => lightC_ok pa' fu' L
  generalize lightB pa fu fi = b1 at lc
  generalize lightB pa' fu' f0 = b2 at ld
  have bu := fun L => built_ok c s al q m pa fu fi X Y hc L
  have bu' := fun L => built_ok c s al q m pa' fu' fi X Y hc L
  have d1 := fun L => distance_ref pa pa' L
  have d2 := fun L => distance_ref fu fu' L
  have hcl : c.n = false → 0 ≤ dstF pa pa' → 0 ≤ dstF fu fu' → nrA (max (dstF pa pa') (dstF fu fu')) (recS c s.ia s.ie al q m pa fu fi X Y) (recS c s.ia s.ie al q m pa' fu' fi X Y) := fun hn h1 h2 =>
    recS_close (dst_near h1 (by omega)) (dst_near h2 (by omega)) hn (fun hf hk => fm_sel hf hk) _ _ _ _ _ _
  have h16 : (recS c s.ia s.ie al q m pa fu fi X Y).2 = 0 → F16 (recS c s.ia s.ie al q m pa fu fi X Y).1 := recS_16
  have e1 := csc_r (c := c) (s := s) (al := al) (q := q) (m := m) (pa := pa) (fu := fu) (fi := fi) (X := X) (Y := Y) hc
  have e2 := csc_k (c := c) (s := s) (al := al) (q := q) (m := m) (pa := pa) (fu := fu) (fi := fi) (X := X) (Y := Y) hc
  have e3 := csc_len (c := c) (s := s) (al := al) (q := q) (m := m) (pa := pa) (fu := fu) (fi := fi) (X := X) (Y := Y) hc
  have e4 := csc_cell (c := c) (s := s) (al := al) (q := q) (m := m) (pa := pa) (fu := fu) (fi := fi) (X := X) (Y := Y)
  have e5 := csc_c (c := c) (s := s) (al := al) (q := q) (m := m) (pa := pa) (fu := fu) (fi := fi) (X := X) (Y := Y)
  have e6 := csc_ct (c := c) (s := s) (al := al) (q := q) (m := m) (pa := pa) (fu := fu) (fi := fi) (X := X) (Y := Y)
  have e7 := csc_cs (c := c) (s := s) (al := al) (q := q) (m := m) (pa := pa) (fu := fu) (fi := fi) (X := X) (Y := Y)
  have e8 := csc_cn (c := c) (s := s) (al := al) (q := q) (m := m) (pa := pa) (fu := fu) (fi := fi) (X := X) (Y := Y)
  have e9 := csc_pa (c := c) (s := s) (al := al) (q := q) (m := m) (pa := pa) (fu := fu) (fi := fi) (X := X) (Y := Y) hc
  have e10 := csc_fu (c := c) (s := s) (al := al) (q := q) (m := m) (pa := pa) (fu := fu) (fi := fi) (X := X) (Y := Y) hc
  have e11 := csc_X (c := c) (s := s) (al := al) (q := q) (m := m) (pa := pa) (fu := fu) (fi := fi) (X := X) (Y := Y) hc
  have e12 := csc_Y (c := c) (s := s) (al := al) (q := q) (m := m) (pa := pa) (fu := fu) (fi := fi) (X := X) (Y := Y) hc

  have s1 := csc_sp (c := c) (s := s) (al := al) (q := q) (m := m) (pa := pa) (fu := fu) (fi := fi) (X := X) (Y := Y) hc pa'
  have s2 := csc_sf (c := c) (s := s) (al := al) (q := q) (m := m) (pa := pa') (fu := fu) (fi := fi) (X := X) (Y := Y) hc fu'
  have n1 := csc_len (c := c) (s := s) (al := al) (q := q) (m := m) (pa := pa') (fu := fu) (fi := fi) (X := X) (Y := Y) hc
  have n2 := csc_len (c := c) (s := s) (al := al) (q := q) (m := m) (pa := pa') (fu := fu') (fi := fi) (X := X) (Y := Y) hc
  have b3 := dstF_hi pa pa'
  have b4 := dstF_hi fu fu'
  generalize dstF pa pa' = D1 at d1 hcl b3
  generalize dstF fu fu' = D2 at d2 hcl b4
  generalize recS c s.ia s.ie al q m pa fu fi X Y = T at bu hcl h16
  generalize recS c s.ia s.ie al q m pa' fu' fi X Y = T' at bu' hcl
  obtain ⟨g, e⟩ := T
  obtain ⟨g', e'⟩ := T'
  simp only at bu bu' hcl h16
  have p5 : (fmc pa').all PV.cell = true := rfl
  have p7 : (fmc pa').length = 5 := rfl
  have p8 : List.take 5 (fmc pa') = fmc pa' := rfl
  have u5 : (fmc fu').all PV.cell = true := rfl
  have u7 : (fmc fu').length = 5 := rfl
  have u8 : List.take 5 (fmc fu') = fmc fu' := rfl
  have v7 : (fmc pa).length = 5 := rfl
  have x3 : (fmc pa' ++ [PV.int .i64 0, PV.int .i64 0, PV.slice [] 0 true, PV.slice [] 0 true, PV.slice [] 0 true, PV.int .i64 0, PV.int .i64 0, PV.slice [] 0 true, PV.slice [] 0 true, PV.slice [] 0 true]).length = 15 := rfl
  have x1 : List.take 5 (fmc pa' ++ [PV.int .i64 0, PV.int .i64 0, PV.slice [] 0 true, PV.slice [] 0 true, PV.slice [] 0 true, PV.int .i64 0, PV.int .i64 0, PV.slice [] 0 true, PV.slice [] 0 true, PV.slice [] 0 true]) = fmc pa' := rfl
  have x2 : List.drop 10 (fmc pa' ++ [PV.int .i64 0, PV.int .i64 0, PV.slice [] 0 true, PV.slice [] 0 true, PV.slice [] 0 true, PV.int .i64 0, PV.int .i64 0, PV.slice [] 0 true, PV.slice [] 0 true, PV.slice [] 0 true]) = [PV.int .i64 0, PV.int .i64 0, PV.slice [] 0 true, PV.slice [] 0 true, PV.slice [] 0 true] := rfl
  have w7 : (fmc fu).length = 5 := rfl
  have g5 : (fmc g).all PV.cell = true := rfl
  have g7 : (fmc g).length = 5 := rfl
  have g8 : List.take 5 (fmc g) = fmc g := rfl
  have i5 : (fmc g').all PV.cell = true := rfl
  have i7 : (fmc g').length = 5 := rfl
  have i8 : List.take 5 (fmc g') = fmc g' := rfl
  have z9 : List.drop 5 [PV.int .i64 0, PV.int .i64 0, PV.slice [] 0 true, PV.slice [] 0 true, PV.slice [] 0 true] = [] := rfl
  have rl0 : (rfs pa fu fi).length = 15 := rfl
  generalize rfs pa fu fi = R at *
  generalize csc c s al q m pa fu fi X Y = C0 at *
  generalize csc c s al q m pa' fu fi X Y = C1 at *
  generalize csc c s al q m pa' fu' fi X Y = C2 at *
  have k0 : List.take 566 C0 = C0 := List.take_of_length_le (by omega)
  have k2 : List.take 566 C2 = C2 := List.take_of_length_le (by omega)
  refine CallOk.body (F0 := [(0, .agg C0), (1, .agg (fmc pa')), (2, .agg (fmc fu'))]) Tryz.func7 rfl Tryz.ntmps7 Tryz.results7 rfl (by kernel_rfl) rfl ?_
  (repeat refine PW.seq ?_); refine PW.rg rfl fun K hK => ?_; simp (maxSteps := 3000000) (disch := omega) only [go_sem, ↓reduceIte, reduceCtorEq, pappend, plen, e4, p5, u5]; refine hK _ _ ?_; clear hK K
  (repeat refine PW.seq ?_)
  refine PW.rgv (P := Tryz.prog) [3, 4, 5] 28 (.bool (!b1 || (!b2 || c.n))) ?_ ?_ ?_
  · rfl
  · clear hcl h16 bu bu' d1 d2
    cases b1
    · simp (maxSteps := 3000000) (disch := omega) only [go_sem, ↓reduceIte, reduceCtorEq, pappend, plen, e1, e3, e8, p7, p8, u7, u8, x1, x2]
      refine VCx.call (lc _) rfl ?_
      simp (maxSteps := 3000000) (disch := omega) only [go_sem, ↓reduceIte, reduceCtorEq, pappend, plen, e1, e3, e8, p7, p8, u7, u8, x1, x2]
    · simp (maxSteps := 3000000) (disch := omega) only [go_sem, ↓reduceIte, reduceCtorEq, pappend, plen, e1, e3, e8, p7, p8, u7, u8, x1, x2]
      refine VCx.call (lc _) rfl ?_
      simp (maxSteps := 3000000) (disch := omega) only [go_sem, ↓reduceIte, reduceCtorEq, pappend, plen, e1, e3, e8, ↓p5, ↓u5, p7, p8, u7, u8, x1, x2, x3, Nat.reduceAdd, Nat.reduceLeDiff]
      refine VCx.call (ld _) rfl ?_
      cases b2
      · simp (maxSteps := 3000000) (disch := omega) only [go_sem, ↓reduceIte, reduceCtorEq, pappend, plen, e1, e3, e8, p7, p8, u7, u8, x1, x2]
      · simp (maxSteps := 3000000) (disch := omega) only [go_sem, ↓reduceIte, reduceCtorEq, pappend, plen, e1, e3, e8, p7, p8, u7, u8, x1, x2]
  (repeat refine PW.seq ?_); refine PW.cond (t := _) rfl (fun h => ?_) (fun h => ?_)
  · (repeat refine PW.seq ?_); refine PW.rg rfl fun K hK => ?_; simp (maxSteps := 3000000) (disch := omega) only [go_sem, ↓reduceIte, reduceCtorEq, pappend, plen]; refine VCx.call (awake10 _) rfl ?_; simp (maxSteps := 3000000) (disch := omega) only [go_sem, ↓reduceIte, reduceCtorEq, pappend, plen]; refine hK _ _ ?_; clear hK K
    (refine PW.ret ⟨_, rfl, ?_⟩; first | refine .inl ⟨?_, rfl⟩ | refine Fin.base (.id' ?_ (.bool _)) | refine Fin.base (.id' ?_ (.int _ _)))
    rfl
  have hb : (!b1 || (!b2 || c.n)) = false := h
  have hn : c.n = false := by
    cases b1 <;> cases b2 <;> simp at hb
    exact hb
  refine PW.skip ?_
  have mx : (if D2 > D1 then D2 else D1) = max D1 D2 := by omega
  (repeat refine PW.seq ?_); refine PW.draw mix (by kernel_rfl) fun K hK => ?_; simp (maxSteps := 3000000) (disch := omega) only [go_sem, ↓reduceIte, reduceCtorEq, pappend, plen, e3, e9, e10, p7, p8, u7, u8]
  (repeat' (first | ((first | refine VO_cond ?_ ?_ | refine VOd_cond ?_ ?_ | refine VOg_cond ?_ ?_ | refine VOh_cond ?_ ?_ | refine VOi_cond ?_ ?_ | refine And.intro ?_ ?_) <;> intro h <;> (try simp only [Bool.not_eq_true', Bool.not_eq_false', decide_eq_true_eq, decide_eq_false_iff_not] at h) <;> simp (maxSteps := 3000000) (disch := omega) only [go_sem, ↓reduceIte, reduceCtorEq, pappend, plen, e3, e9, e10, p7, p8, u7, u8, mx, h]) | ((first | refine VCx.call (d1 _) rfl ?_ | refine VCx.call (d2 _) rfl ?_ | refine VCy.call (d1 _) rfl ?_ | refine VCy.call (d2 _) rfl ?_ | refine VCz.call (fun _ => d1 _) rfl ?_ | refine VCz.call (fun _ => d2 _) rfl ?_ | refine VCk.call (fun _ _ => d1 _) rfl ?_ | refine VCk.call (fun _ _ => d2 _) rfl ?_ | refine VCj.now (d1 _) rfl ?_ | refine VCj.now (d2 _) rfl ?_); simp (maxSteps := 3000000) (disch := omega) only [go_sem, ↓reduceIte, reduceCtorEq, pappend, plen, e3, e9, e10, p7, p8, u7, u8, mx])))
  refine hK _ _ ?_; clear hK K
  (repeat refine PW.seq ?_)
  refine PW.rgv (P := Tryz.prog) [3, 4, 5, 7] 54 (.bool (decide (D1 < 0) || decide (D2 < 0))) ?_ ?_ ?_
  · rfl
  · simp (maxSteps := 3000000) (disch := omega) only [go_sem, ↓reduceIte, reduceCtorEq, pappend, plen, e3, e9, e10, p7, p8, u7, u8]; (repeat' (first | ((first | refine VO_cond ?_ ?_ | refine VOd_cond ?_ ?_ | refine VOg_cond ?_ ?_ | refine VOh_cond ?_ ?_ | refine VOi_cond ?_ ?_ | refine And.intro ?_ ?_) <;> intro h <;> (try simp only [Bool.not_eq_true', Bool.not_eq_false', decide_eq_true_eq, decide_eq_false_iff_not] at h) <;> simp (maxSteps := 3000000) (disch := omega) only [go_sem, ↓reduceIte, reduceCtorEq, pappend, plen, e3, e9, e10, p7, p8, u7, u8, h]) | ((first | refine VCx.call (d1 _) rfl ?_ | refine VCx.call (d2 _) rfl ?_ | refine VCy.call (d1 _) rfl ?_ | refine VCy.call (d2 _) rfl ?_ | refine VCz.call (fun _ => d1 _) rfl ?_ | refine VCz.call (fun _ => d2 _) rfl ?_ | refine VCk.call (fun _ _ => d1 _) rfl ?_ | refine VCk.call (fun _ _ => d2 _) rfl ?_ | refine VCj.now (d1 _) rfl ?_ | refine VCj.now (d2 _) rfl ?_); simp (maxSteps := 3000000) (disch := omega) only [go_sem, ↓reduceIte, reduceCtorEq, pappend, plen, e3, e9, e10, p7, p8, u7, u8])))
    all_goals (clear lc ld e1 e2 e3 e4 e5 e6 e7 e8 e9 e10 e11 e12 s1 s2 n1 n2 x1 x2 p5 p7 p8 u5 u7 u8 g5 g7 g8 i5 i7 i8 z9 rl0 k0 k2 v7 w7 hcl h16 bu bu' d1 d2; (simp_all [slot, Nat.beq] <;> first | rfl | omega | (rw [Bool.eq_iff_iff]; simp; done) | (rw [Bool.eq_iff_iff]; simp; omega)))
  (repeat refine PW.seq ?_); refine PW.cond (t := _) rfl (fun h => ?_) (fun h => ?_)
  · (repeat refine PW.seq ?_); refine PW.rg rfl fun K hK => ?_; simp (maxSteps := 3000000) (disch := omega) only [go_sem, ↓reduceIte, reduceCtorEq, pappend, plen]; refine VCx.call (awake10 _) rfl ?_; simp (maxSteps := 3000000) (disch := omega) only [go_sem, ↓reduceIte, reduceCtorEq, pappend, plen]; refine hK _ _ ?_; clear hK K
    (refine PW.ret ⟨_, rfl, ?_⟩; first | refine .inl ⟨?_, rfl⟩ | refine Fin.base (.id' ?_ (.bool _)) | refine Fin.base (.id' ?_ (.int _ _)))
    rfl
  have hb2 : (decide (D1 < 0) || decide (D2 < 0)) = false := h
  have hD : 0 ≤ D1 ∧ 0 ≤ D2 := by simpa using hb2
  obtain ⟨he, hN⟩ := hcl hn hD.1 hD.2
  simp only at he hN
  subst he
  refine PW.skip ?_
  (repeat refine PW.seq ?_); refine PW.rg rfl fun K hK => ?_; simp (maxSteps := 3000000) (disch := omega) only [go_sem, ↓reduceIte, reduceCtorEq, pappend, plen, e3, k0, g5, g7, z9]; refine VCx.call (bu _) rfl ?_; simp (maxSteps := 3000000) (disch := omega) only [go_sem, ↓reduceIte, reduceCtorEq, pappend, plen, e3, k0, g5, g7, z9]; refine hK _ _ ?_; clear hK K
  (repeat refine PW.seq ?_); refine PW.drawi [H.length] [(3, [0]), (63, [0]), (64, [0]), (65, [0]), (66, [0])] [] [] mix (by kernel_rfl) (by simp <;> omega) fun K hK => ?_
  simp (maxSteps := 3000000) (disch := omega) only [go_sem, ↓reduceIte, reduceCtorEq, pappend, plen, arith, e3, n1, n2, s1, s2, p7, p8, u7, u8, Nat.reduceAdd]
  refine hK _ _ ?_; clear hK K
  (repeat refine PW.seq ?_); refine PW.rg rfl fun K hK => ?_; simp (maxSteps := 3000000) (disch := omega) only [go_sem, ↓reduceIte, reduceCtorEq, pappend, plen, n2, k2, i5, i7, z9]; refine VCx.call (bu' _) rfl ?_; simp (maxSteps := 3000000) (disch := omega) only [go_sem, ↓reduceIte, reduceCtorEq, pappend, plen, n2, k2, i5, i7, z9]; refine hK _ _ ?_; clear hK K
  (repeat refine PW.seq ?_); refine PW.rg rfl fun K hK => ?_; simp (maxSteps := 3000000) (disch := omega) only [go_sem, ↓reduceIte, reduceCtorEq, pappend, plen]; refine hK _ _ ?_; clear hK K
  (repeat refine PW.seq ?_); refine PW.cond (t := _) rfl (fun h => ?_) (fun h => ?_)
  · simp at h
  refine PW.skip ?_
  have dd := fun L => distance_ref g g' L
  have hN2 : e = 0 → 0 ≤ dstF g g' ∧ dstF g g' ≤ max D1 D2 := fun hz => near_dst hN (h16 hz)
  generalize dstF g g' = D3 at dd hN2
  (repeat refine PW.seq ?_); refine PW.rg rfl fun K hK => ?_; simp (maxSteps := 3000000) (disch := omega) only [go_sem, ↓reduceIte, reduceCtorEq, pappend, plen, g7, g8, i7, i8]; refine VCx.call (dd _) rfl ?_; simp (maxSteps := 3000000) (disch := omega) only [go_sem, ↓reduceIte, reduceCtorEq, pappend, plen, g7, g8, i7, i8]; refine hK _ _ ?_; clear hK K
  (repeat refine PW.seq ?_); refine PW.rg rfl fun K hK => ?_; simp (maxSteps := 3000000) (disch := omega) only [go_sem, ↓reduceIte, reduceCtorEq, pappend, plen]
  (repeat' (first | ((first | refine VO_cond ?_ ?_ | refine VOd_cond ?_ ?_ | refine VOg_cond ?_ ?_ | refine VOh_cond ?_ ?_ | refine VOi_cond ?_ ?_ | refine And.intro ?_ ?_) <;> intro h <;> (try simp only [Bool.not_eq_true', Bool.not_eq_false', decide_eq_true_eq, decide_eq_false_iff_not] at h) <;> simp (maxSteps := 3000000) (disch := omega) only [go_sem, ↓reduceIte, reduceCtorEq, pappend, plen, h]) | ((first | refine VCx.call (awake10 _) rfl ?_ | refine VCy.call (awake10 _) rfl ?_ | refine VCz.call (fun _ => awake10 _) rfl ?_ | refine VCk.call (fun _ _ => awake10 _) rfl ?_ | refine VCj.now (awake10 _) rfl ?_); simp (maxSteps := 3000000) (disch := omega) only [go_sem, ↓reduceIte, reduceCtorEq, pappend, plen])))
  all_goals (refine hK _ _ ?_; clear hK; (refine PW.ret ⟨_, rfl, ?_⟩; first | refine .inl ⟨?_, rfl⟩ | refine Fin.base (.id' ?_ (.bool _)) | refine Fin.base (.id' ?_ (.int _ _))); by_cases hz : e = 0 <;> simp_all [slot, Nat.beq] <;> grind)

end Go.Proofs.YtahomnplappbpaaGreatDoor.Sc

namespace Go.Proofs.YtahomnplappbpaaGreatDoor.Sc
set_option linter.all false
set_option linter.unusedVariables false
set_option linter.unusedSimpArgs false
open Pm Ty Go.RowKit

theorem basis_ref (i k : Nat) (H : Heap) (hi : i < 8) (hk : k < 8) : CallOk Tryz.prog 96 [.int .i64 (i : Int), .int .i64 (k : Int)] H (.int .i64 (bas i k)) H := by
  rcases or8 hi with rfl | rfl | rfl | rfl | rfl | rfl | rfl | rfl <;> rcases or8 hk with rfl | rfl | rfl | rfl | rfl | rfl | rfl | rfl
  all_goals exact CallOk.eval 1000 (by kernel_rfl) (sc2 _ _)
theorem norm_ref (i : Nat) (H : Heap) (hi : i < 8) : CallOk Tryz.prog 97 [.int .i64 (i : Int)] H (.int .i64 (intAt nrL i)) H := by
  rcases or8 hi with rfl | rfl | rfl | rfl | rfl | rfl | rfl | rfl
  all_goals exact CallOk.eval 10000 (by kernel_rfl) (sc1 _)
theorem clamp_ref (v : Int) (H : Heap) : CallOk Tryz.prog 98 [.int .i64 v] H (.int .i64 (cl21 v)) H := by
  have cl : (if (if 2097152 < v then 2097152 else v) > -2097152 then (if 2097152 < v then 2097152 else v) else -2097152) = cl21 v := by unfold cl21; omega
  refine CallOk.body (F0 := [(0, .int .i64 v)]) Tryz.func98 rfl Tryz.ntmps98 Tryz.results98 rfl (by kernel_rfl) rfl ?_
  (repeat refine PW.seq ?_); refine PW.rg rfl fun K hK => ?_; simp (disch := omega) only [go_sem, ↓reduceIte, reduceCtorEq, pappend, plen]; refine hK _ _ ?_; clear hK K
  (repeat refine PW.seq ?_); refine PW.rg rfl fun K hK => ?_; simp (disch := omega) only [go_sem, ↓reduceIte, reduceCtorEq, pappend, plen]; refine hK _ _ ?_; clear hK K
  (refine PW.ret ⟨_, rfl, ?_⟩; first | refine .inl ⟨?_, rfl⟩ | refine Fin.base (.id' ?_ (.bool _)) | refine Fin.base (.id' ?_ (.int _ _)))
  first | exact congrArg _ cl | (simp [slot, Nat.beq]; unfold cl21; omega)

/-- An array that is filled, and is filling at n. -/
def fim (f : Nat → Int) (n : Nat) (v : Int) : List Int := rgI 64 fun j => if j < n then f j else if j = n then v else 0
theorem fim_len (f : Nat → Int) (n : Nat) (v : Int) : (fim f n v).length = 64 := rgI_len _ _
theorem fim_0 (f : Nat → Int) (n : Nat) : fim f n 0 = fil f n := rgI_ext fun j hj => by
  by_cases h : j < n
  · rw [if_pos h, if_pos h]
  · rw [if_neg h, if_neg h]; split <;> rfl
theorem fim_1 (f : Nat → Int) (n : Nat) : fim f n (f n) = fil f (n + 1) := rgI_ext fun j hj => by
  by_cases h : j < n
  · rw [if_pos h, if_pos (by omega)]
  · by_cases h2 : j = n
    · rw [if_neg h, if_pos h2, if_pos (by omega), h2]
    · rw [if_neg h, if_neg h2, if_neg (by omega)]
theorem fim_at (f : Nat → Int) {n : Nat} (v : Int) (h : n < 64) : intAt (fim f n v) n = v := by rw [fim, rgI_at _ h, if_neg (by omega), if_pos rfl]
theorem fim_set (f : Nat → Int) (n : Nat) (v w : Int) : (fim f n v).set n w = fim f n w := by
  rw [fim, rgI_set]
  refine rgI_ext fun j hj => ?_
  by_cases h1 : j = n
  · rw [if_pos h1, if_neg (by omega), if_pos h1]
  · rw [if_neg h1, if_neg h1, if_neg h1]

end Go.Proofs.YtahomnplappbpaaGreatDoor.Sc

namespace Go.Proofs.YtahomnplappbpaaGreatDoor.Sc
set_option linter.all false
set_option linter.unusedVariables false
set_option linter.unusedSimpArgs false
open Pm Ty Go.RowKit

theorem fil_setv (f : Nat → Int) (n : Nat) (v : Int) : (fil f n).set n v = fim f n v := by rw [← fim_0, fim_set]
theorem nst_eq (c : Int) : nst c = (273681612800 + c) / 547363225600 := by unfold nst; omega

set_option maxHeartbeats 4000000 in
set_option maxRecDepth 100000 in
theorem inverse_ref (y : List Int) (hl : y.length = 64) (H : Heap) : CallOk Tryz.prog 40 [.agg (is y)] H (.agg (is (inv y))) H := by
  have hinv : inv y = fil (colF y) 64 := (fil_64 _).symm
  have hall := is_cell y
  have hz := fil_0 (rowF y)
  have hz2 := fil_0 (colF y)
  refine CallOk.body (F0 := [(0, .agg (is y))]) Tryz.func40 rfl Tryz.ntmps40 Tryz.results40 rfl (by kernel_rfl) rfl ?_
  (repeat refine PW.seq ?_); refine PW.rg rfl fun K hK => ?_; simp (disch := omega) only [go_sem, ↓reduceIte, reduceCtorEq, pappend, plen, hall]; refine hK _ _ ?_; clear hK K
  (repeat refine PW.seq ?_); refine PW.rg rfl fun K hK => ?_; simp (disch := omega) only [go_sem, ↓reduceIte, reduceCtorEq, pappend, plen]; refine hK _ _ ?_; clear hK K
  (repeat refine PW.seq ?_); refine PW.rg rfl fun K hK => ?_; simp (disch := omega) only [go_sem, ↓reduceIte, reduceCtorEq, pappend, plen]; refine hK _ _ ?_; clear hK K
  (repeat refine PW.seq ?_); refine PW.block (PW.loop ?_)
  suffices h1 : ∀ i : Nat, i ≤ 8 → PL Tryz.prog _ _ [(1, .ptr H.length 0 0), (2, .ptr (H.length + 1) 0 0), (3, .ptr (H.length + 2) 0 0), (4, .ptr (H.length + 3) 0 0), (5, .int .i64 (i : Int))] (H ++ [⟨47, 0, is y⟩, ⟨47, 0, is zi⟩, ⟨47, 0, is (fil (rowF y) (8 * i))⟩, ⟨47, 0, is zi⟩]) _ by
    exact PL.at [1, 2, 3, 4, 5] (h1 0 (by omega)) rfl (by rw [Nat.mul_zero, hz]; rfl)
  refine cnt 8 (fun i hi ih => ?_) ?_
  · refine PL.round ?_; (repeat refine PW.seq ?_); refine PW.rg rfl fun K hK => ?_; simp (disch := omega) only [go_sem, ↓reduceIte, reduceCtorEq, pappend, plen]; refine hK _ _ ?_; clear hK K; (repeat refine PW.seq ?_); refine PW.cond (t := _) rfl (fun h => ?_) (fun h => ?_)
    rotate_left
    · cases h
    refine PW.skip ?_; (repeat refine PW.seq ?_); refine PW.block ?_
    (repeat refine PW.seq ?_); refine PW.rg rfl fun K hK => ?_; simp (disch := omega) only [go_sem, ↓reduceIte, reduceCtorEq, pappend, plen]; refine hK _ _ ?_; clear hK K
    (repeat refine PW.seq ?_); refine PW.block (PW.loop ?_)
    suffices h2 : ∀ l : Nat, l ≤ 8 → PL Tryz.prog _ _ [(1, .ptr H.length 0 0), (2, .ptr (H.length + 1) 0 0), (3, .ptr (H.length + 2) 0 0), (4, .ptr (H.length + 3) 0 0), (5, .int .i64 (i : Int)), (6, .int .i64 (l : Int))] (H ++ [⟨47, 0, is y⟩, ⟨47, 0, is zi⟩, ⟨47, 0, is (fil (rowF y) (8 * i + l))⟩, ⟨47, 0, is zi⟩]) _ by
      exact PL.at [1, 2, 3, 4, 5, 6] (h2 0 (by omega)) rfl rfl
    refine cnt 8 (fun l hlt ih => ?_) ?_
    · refine PL.round ?_; (repeat refine PW.seq ?_); refine PW.rg rfl fun K hK => ?_; simp (disch := omega) only [go_sem, ↓reduceIte, reduceCtorEq, pappend, plen]; refine hK _ _ ?_; clear hK K; (repeat refine PW.seq ?_); refine PW.cond (t := _) rfl (fun h => ?_) (fun h => ?_)
      rotate_left
      · cases h
      refine PW.skip ?_; (repeat refine PW.seq ?_); refine PW.block ?_
      (repeat refine PW.seq ?_); refine PW.rg rfl fun K hK => ?_; simp (disch := omega) only [go_sem, ↓reduceIte, reduceCtorEq, pappend, plen]; refine hK _ _ ?_; clear hK K
      (repeat refine PW.seq ?_); refine PW.block (PW.loop ?_)
      suffices h3 : ∀ j : Nat, j ≤ 8 → PL Tryz.prog _ _ [(1, .ptr H.length 0 0), (2, .ptr (H.length + 1) 0 0), (3, .ptr (H.length + 2) 0 0), (4, .ptr (H.length + 3) 0 0), (5, .int .i64 (i : Int)), (6, .int .i64 (l : Int)), (7, .int .i64 (j : Int))] (H ++ [⟨47, 0, is y⟩, ⟨47, 0, is zi⟩, ⟨47, 0, is (fim (rowF y) (8 * i + l) (sumN (rtm y i l) j))⟩, ⟨47, 0, is zi⟩]) _ by
        exact PL.at [1, 2, 3, 4, 5, 6, 7] (h3 0 (by omega)) rfl (by rw [show sumN (rtm y i l) 0 = 0 from rfl, fim_0])
      refine cnt 8 (fun j hj ih => ?_) ?_
      · refine PL.round ?_; (repeat refine PW.seq ?_); refine PW.rg rfl fun K hK => ?_; simp (disch := omega) only [go_sem, ↓reduceIte, reduceCtorEq, pappend, plen]; refine hK _ _ ?_; clear hK K; (repeat refine PW.seq ?_); refine PW.cond (t := _) rfl (fun h => ?_) (fun h => ?_)
        rotate_left
        · cases h
        have b1 := rtm_bd y i l j
        rw [rtm, tS] at b1
        have b0 := tS_bd j l
        rw [tS] at b0
        obtain ⟨m1, m2, m3, m4⟩ := ms_of hj
        have bm := ms_bd j
        have b2 := sumN_le (rtm_bd y i l) (show j ≤ 8 by omega)
        have e1 : (8 : Int) * (i : Int) + (j : Int) = ((8 * i + j : Nat) : Int) := by omega
        have e2 : (8 : Int) * (i : Int) + (l : Int) = ((8 * i + l : Nat) : Int) := by omega
        have f1 := fun v => fim_len (rowF y) (8 * i + l) v
        have f2 := fun v => fim_at (rowF y) v (show 8 * i + l < 64 by omega)
        have f3 := fun v w => fim_set (rowF y) (8 * i + l) v w
        have f7 := f1 (sumN (rtm y i l) j)
        have ba := fun K => basis_ref j l K hj hlt
        have no := fun K => norm_ref j K hj
        have cl := fun K => clamp_ref (intAt y (8 * i + j)) K
        refine PW.skip ?_; (repeat refine PW.seq ?_); refine PW.block ?_
        (repeat refine PW.seq ?_); refine PW.drawi [H.length + 2] [(3, [0]), (28, [0]), (46, [0])] [] [32, 34, 43] mix (by kernel_rfl) (by simp <;> omega) fun K hK => ?_
        simp (disch := omega) only [go_sem, ↓reduceIte, reduceCtorEq, pappend, plen, arith, is_get, is_len, hl, f1, f2, e1, e2]
        refine VCj.read (fun _ _ => ba _) rfl ?_
        simp (disch := omega) only [go_sem, ↓reduceIte, reduceCtorEq, pappend, plen, arith, is_get, is_len, hl, f1, f2, e1, e2, m1, m2]
        refine VCj.read (fun _ _ => no _) rfl ?_
        simp (disch := omega) only [go_sem, ↓reduceIte, reduceCtorEq, pappend, plen, arith, is_get, is_len, hl, f1, f2, e1, e2, m1, m2]
        refine VCj.read (fun _ _ => cl _) rfl ?_
        simp (disch := omega) only [go_sem, ↓reduceIte, reduceCtorEq, pappend, plen, arith, is_get, is_len, hl, f1, f2, e1, e2, m1, m2, is_set, f3]
        refine hK _ _ ?_; clear hK K
        (repeat refine PW.seq ?_); refine PW.rg rfl fun K hK => ?_; simp (disch := omega) only [go_sem, ↓reduceIte, reduceCtorEq, pappend, plen]; refine hK _ _ ?_; clear hK K
        exact PL.at [1, 2, 3, 4, 5, 6, 7] ih rfl rfl
      · refine PL.round ?_; (repeat refine PW.seq ?_); refine PW.rg rfl fun K hK => ?_; simp (disch := omega) only [go_sem, ↓reduceIte, reduceCtorEq, pappend, plen]; refine hK _ _ ?_; clear hK K; (repeat refine PW.seq ?_); refine PW.cond (t := _) rfl (fun h => ?_) (fun h => ?_)
        · cases h
        refine PW.exit ?_
        have f2 := fim_1 (rowF y) (8 * i + l)
        rw [rowF_at y hlt, rowI] at f2
        rw [f2]
        (repeat refine PW.seq ?_); refine PW.rg rfl fun K hK => ?_; simp (disch := omega) only [go_sem, ↓reduceIte, reduceCtorEq, pappend, plen]; refine hK _ _ ?_; clear hK K
        exact PL.at [1, 2, 3, 4, 5, 6] ih rfl rfl
    · refine PL.round ?_; (repeat refine PW.seq ?_); refine PW.rg rfl fun K hK => ?_; simp (disch := omega) only [go_sem, ↓reduceIte, reduceCtorEq, pappend, plen]; refine hK _ _ ?_; clear hK K; (repeat refine PW.seq ?_); refine PW.cond (t := _) rfl (fun h => ?_) (fun h => ?_)
      · cases h
      refine PW.exit ?_
      (repeat refine PW.seq ?_); refine PW.rg rfl fun K hK => ?_; simp (disch := omega) only [go_sem, ↓reduceIte, reduceCtorEq, pappend, plen]; refine hK _ _ ?_; clear hK K
      exact PL.at [1, 2, 3, 4, 5] ih rfl rfl
  refine PL.round ?_; (repeat refine PW.seq ?_); refine PW.rg rfl fun K hK => ?_; simp (disch := omega) only [go_sem, ↓reduceIte, reduceCtorEq, pappend, plen]; refine hK _ _ ?_; clear hK K; (repeat refine PW.seq ?_); refine PW.cond (t := _) rfl (fun h => ?_) (fun h => ?_)
  · cases h
  refine PW.exit ?_
  (repeat refine PW.seq ?_); refine PW.rg rfl fun K hK => ?_; simp (disch := omega) only [go_sem, ↓reduceIte, reduceCtorEq, pappend, plen]; refine hK _ _ ?_; clear hK K
  (repeat refine PW.seq ?_); refine PW.block (PW.loop ?_)
  have r3 := fil_len (rowF y) 64
  suffices h1 : ∀ k : Nat, k ≤ 8 → PL Tryz.prog _ _ [(2, .ptr (H.length + 1) 0 0), (3, .ptr (H.length + 2) 0 0), (4, .ptr (H.length + 3) 0 0), (8, .int .i64 (k : Int))] (H ++ [⟨47, 0, is y⟩, ⟨47, 0, is zi⟩, ⟨47, 0, is (fil (rowF y) 64)⟩, ⟨47, 0, is (fil (colF y) (8 * k))⟩]) _ by
    exact PL.at [2, 3, 4, 8] (h1 0 (by omega)) rfl (by rw [Nat.mul_zero, hz2])
  refine cnt 8 (fun k hk ih => ?_) ?_
  · refine PL.round ?_; (repeat refine PW.seq ?_); refine PW.rg rfl fun K hK => ?_; simp (disch := omega) only [go_sem, ↓reduceIte, reduceCtorEq, pappend, plen]; refine hK _ _ ?_; clear hK K; (repeat refine PW.seq ?_); refine PW.cond (t := _) rfl (fun h => ?_) (fun h => ?_)
    rotate_left
    · cases h
    refine PW.skip ?_; (repeat refine PW.seq ?_); refine PW.block ?_
    (repeat refine PW.seq ?_); refine PW.rg rfl fun K hK => ?_; simp (disch := omega) only [go_sem, ↓reduceIte, reduceCtorEq, pappend, plen]; refine hK _ _ ?_; clear hK K
    (repeat refine PW.seq ?_); refine PW.block (PW.loop ?_)
    suffices h2 : ∀ l : Nat, l ≤ 8 → PL Tryz.prog _ _ [(2, .ptr (H.length + 1) 0 0), (3, .ptr (H.length + 2) 0 0), (4, .ptr (H.length + 3) 0 0), (8, .int .i64 (k : Int)), (9, .int .i64 (l : Int))] (H ++ [⟨47, 0, is y⟩, ⟨47, 0, is zi⟩, ⟨47, 0, is (fil (rowF y) 64)⟩, ⟨47, 0, is (fil (colF y) (8 * k + l))⟩]) _ by
      exact PL.at [2, 3, 4, 8, 9] (h2 0 (by omega)) rfl rfl
    refine cnt 8 (fun l hlt ih => ?_) ?_
    · refine PL.round ?_; (repeat refine PW.seq ?_); refine PW.rg rfl fun K hK => ?_; simp (disch := omega) only [go_sem, ↓reduceIte, reduceCtorEq, pappend, plen]; refine hK _ _ ?_; clear hK K; (repeat refine PW.seq ?_); refine PW.cond (t := _) rfl (fun h => ?_) (fun h => ?_)
      rotate_left
      · cases h
      refine PW.skip ?_; (repeat refine PW.seq ?_); refine PW.block ?_
      (repeat refine PW.seq ?_); refine PW.rg rfl fun K hK => ?_; simp (disch := omega) only [go_sem, ↓reduceIte, reduceCtorEq, pappend, plen]; refine hK _ _ ?_; clear hK K
      (repeat refine PW.seq ?_); refine PW.rg rfl fun K hK => ?_; simp (disch := omega) only [go_sem, ↓reduceIte, reduceCtorEq, pappend, plen]; refine hK _ _ ?_; clear hK K
      (repeat refine PW.seq ?_); refine PW.block (PW.loop ?_)
      suffices h3 : ∀ i : Nat, i ≤ 8 → PL Tryz.prog _ _ [(2, .ptr (H.length + 1) 0 0), (3, .ptr (H.length + 2) 0 0), (4, .ptr (H.length + 3) 0 0), (8, .int .i64 (k : Int)), (9, .int .i64 (l : Int)), (10, .int .i64 (273681612800 + sumN (ctm y k l) i)), (11, .int .i64 (i : Int))] (H ++ [⟨47, 0, is y⟩, ⟨47, 0, is zi⟩, ⟨47, 0, is (fil (rowF y) 64)⟩, ⟨47, 0, is (fil (colF y) (8 * k + l))⟩]) _ by
        exact PL.at [2, 3, 4, 8, 9, 10, 11] (h3 0 (by omega)) rfl rfl
      refine cnt 8 (fun i hi ih => ?_) ?_
      · refine PL.round ?_; (repeat refine PW.seq ?_); refine PW.rg rfl fun K hK => ?_; simp (disch := omega) only [go_sem, ↓reduceIte, reduceCtorEq, pappend, plen]; refine hK _ _ ?_; clear hK K; (repeat refine PW.seq ?_); refine PW.cond (t := _) rfl (fun h => ?_) (fun h => ?_)
        rotate_left
        · cases h
        have g2 := fil_at (rowF y) (n := 64) (j := 8 * i + l) (by omega) (by omega)
        rw [rowF_at y hlt] at g2
        have b1 := ctm_bd y k l i
        rw [ctm, tS] at b1
        have b0 := tS_bd i k
        rw [tS] at b0
        obtain ⟨m1, m2, m3, m4⟩ := ms_of hi
        have bm := ms_bd i
        have b2 := sumN_le (ctm_bd y k l) (show i ≤ 8 by omega)
        have e1 : (8 : Int) * (i : Int) + (l : Int) = ((8 * i + l : Nat) : Int) := by omega
        have ba := fun K => basis_ref i k K hi hk
        have no := fun K => norm_ref i K hi
        refine PW.skip ?_; (repeat refine PW.seq ?_); refine PW.block ?_
        (repeat refine PW.seq ?_); refine PW.drawi [] [] [] [62, 64] mix (by kernel_rfl) (by simp <;> omega) fun K hK => ?_
        simp (disch := omega) only [go_sem, ↓reduceIte, reduceCtorEq, pappend, plen, arith, is_get, is_len, r3, e1]
        refine VCj.read (fun _ _ => ba _) rfl ?_
        simp (disch := omega) only [go_sem, ↓reduceIte, reduceCtorEq, pappend, plen, arith, is_get, is_len, r3, e1]
        refine VCj.read (fun _ _ => no _) rfl ?_
        simp (disch := omega) only [go_sem, ↓reduceIte, reduceCtorEq, pappend, plen, arith, is_get, is_len, r3, e1, m1, m2, g2]
        refine hK _ _ ?_; clear hK K
        (repeat refine PW.seq ?_); refine PW.rg rfl fun K hK => ?_; simp (disch := omega) only [go_sem, ↓reduceIte, reduceCtorEq, pappend, plen]; refine hK _ _ ?_; clear hK K
        have ih' := ih
        rw [show (273681612800 : Int) + sumN (ctm y k l) (i + 1) = 273681612800 + sumN (ctm y k l) i + bas i k * intAt msL i * rowI y i l from by rw [sumN, ctm, tS]; omega] at ih'
        exact PL.at [2, 3, 4, 8, 9, 10, 11] ih' rfl rfl
      · refine PL.round ?_; (repeat refine PW.seq ?_); refine PW.rg rfl fun K hK => ?_; simp (disch := omega) only [go_sem, ↓reduceIte, reduceCtorEq, pappend, plen]; refine hK _ _ ?_; clear hK K; (repeat refine PW.seq ?_); refine PW.cond (t := _) rfl (fun h => ?_) (fun h => ?_)
        · cases h
        refine PW.exit ?_
        have e1 : (8 : Int) * (k : Int) + (l : Int) = ((8 * k + l : Nat) : Int) := by omega
        have f1 := fil_len (colF y) (8 * k + l)
        have f0 := fun v => fil_setv (colF y) (8 * k + l) v
        have f4 := fun v => fim_len (colF y) (8 * k + l) v
        have f2 := fun v => fim_at (colF y) v (show 8 * k + l < 64 by omega)
        have f3 := fun v w => fim_set (colF y) (8 * k + l) v w
        have f7 := f4 ((273681612800 + sumN (ctm y k l) 8).tdiv 547363225600)
        have f5 := fim_1 (colF y) (8 * k + l)
        rw [colF_at y hlt, nst_eq, colI] at f5
        have b2 := colI_bd y k l
        rw [colI] at b2
        have h1 := tdiv_abs (273681612800 + sumN (ctm y k l) 8) 547363225600
        have h2 := flr (273681612800 + sumN (ctm y k l) 8) 547363225600 (by omega)
        (repeat refine PW.seq ?_); refine PW.rg rfl fun K hK => ?_; simp (disch := omega) only [go_sem, ↓reduceIte, reduceCtorEq, pappend, plen, e1, is_len, f1, is_set, f0, wq64]; refine hK _ _ ?_; clear hK K
        (repeat refine PW.seq ?_); refine PW.rg rfl fun K hK => ?_; simp (disch := omega) only [go_sem, ↓reduceIte, reduceCtorEq, pappend, plen]; refine hK _ _ ?_; clear hK K
        (repeat refine PW.seq ?_); refine PW.cond (t := _) rfl (fun h => ?_) (fun h => ?_)
        · have h3 : (273681612800 + sumN (ctm y k l) 8).tmod 547363225600 < 0 := by simpa using h
          rw [if_pos h3] at h2
          rw [← h2] at f5
          (repeat refine PW.seq ?_); refine PW.rg rfl fun K hK => ?_; simp (disch := omega) only [go_sem, ↓reduceIte, reduceCtorEq, pappend, plen, e1, is_len, is_get, f4, f2, is_set, f3]; refine hK _ _ ?_; clear hK K
          rw [f5]
          (repeat refine PW.seq ?_); refine PW.rg rfl fun K hK => ?_; simp (disch := omega) only [go_sem, ↓reduceIte, reduceCtorEq, pappend, plen]; refine hK _ _ ?_; clear hK K
          exact PL.at [2, 3, 4, 8, 9] ih rfl rfl
        · have h3 : ¬ (273681612800 + sumN (ctm y k l) 8).tmod 547363225600 < 0 := by simpa using h
          rw [if_neg h3] at h2
          rw [← h2] at f5
          refine PW.skip ?_
          rw [f5]
          (repeat refine PW.seq ?_); refine PW.rg rfl fun K hK => ?_; simp (disch := omega) only [go_sem, ↓reduceIte, reduceCtorEq, pappend, plen]; refine hK _ _ ?_; clear hK K
          exact PL.at [2, 3, 4, 8, 9] ih rfl rfl
    · refine PL.round ?_; (repeat refine PW.seq ?_); refine PW.rg rfl fun K hK => ?_; simp (disch := omega) only [go_sem, ↓reduceIte, reduceCtorEq, pappend, plen]; refine hK _ _ ?_; clear hK K; (repeat refine PW.seq ?_); refine PW.cond (t := _) rfl (fun h => ?_) (fun h => ?_)
      · cases h
      refine PW.exit ?_
      (repeat refine PW.seq ?_); refine PW.rg rfl fun K hK => ?_; simp (disch := omega) only [go_sem, ↓reduceIte, reduceCtorEq, pappend, plen]; refine hK _ _ ?_; clear hK K
      exact PL.at [2, 3, 4, 8] ih rfl rfl
  refine PL.round ?_; (repeat refine PW.seq ?_); refine PW.rg rfl fun K hK => ?_; simp (disch := omega) only [go_sem, ↓reduceIte, reduceCtorEq, pappend, plen]; refine hK _ _ ?_; clear hK K; (repeat refine PW.seq ?_); refine PW.cond (t := _) rfl (fun h => ?_) (fun h => ?_)
  · cases h
  refine PW.exit ?_
  have c3 := fil_len (colF y) 64
  have c4 : (is (fil (colF y) 64)).length = 64 := by rw [is_len, c3]
  have c5 := is_cell (fil (colF y) 64)
  have c6 : List.take 64 (is (fil (colF y) 64)) = is (fil (colF y) 64) := List.take_of_length_le (by omega)
  have z3 : (is zi).length = 64 := by rw [is_len, zi_len]
  have z4 : List.drop 64 (is zi) = [] := List.drop_of_length_le (by omega)
  (repeat refine PW.seq ?_); refine PW.rg rfl fun K hK => ?_; simp (disch := omega) only [go_sem, ↓reduceIte, reduceCtorEq, pappend, plen, c4, c5, c6, z3, z4]; refine hK _ _ ?_; clear hK K
  rw [hinv]
  refine PW.ret ⟨.agg (is (fil (colF y) 64)), by simp (disch := omega) only [go_sem, ↓reduceIte, reduceCtorEq, pappend, plen, presults, presult, List.mapM_cons, List.mapM_nil, Option.pure_def, Option.bind_eq_bind, Option.bind_some, Array.toList, c4, c6], ?_⟩
  exact Fin.base (.id (ag_scoped (is_scoped _ _)))

end Go.Proofs.YtahomnplappbpaaGreatDoor.Sc
