/-
  Parts of the proof, put together in one text. No condition.
-/
import Derived.Test.YtahomnplappbpaaGreatDoorV25
import Derived.Test.YtahomnplappbpaaGreatDoorV21
import Derived.Test.YtahomnplappbpaaGreatDoorV16
import Derived.Test.YtahomnplappbpaaGreatDoorV20
namespace Go.Proofs.YtahomnplappbpaaGreatDoor.Sc
set_option linter.all false
set_option linter.unusedVariables false
set_option linter.unusedSimpArgs false
open Pm Ty Go.RowKit

theorem pv_sz {s : Sq} {p : Pi} (hv : pvalid s p = true) : ∃ A B : Nat, (1 ≤ A ∧ A ≤ 4) ∧ (1 ≤ B ∧ B ≤ 4) ∧ s.w = ((16 * A : Nat) : Int) ∧ hgt s p = ((16 * B : Nat) : Int) ∧ prows s p = (B : Int) ∧ (p.st = 3 → s.h = ((16 * B : Nat) : Int)) ∧ (p.st ≠ 3 → s.h = ((32 * B : Nat) : Int) ∧ s.il = true) ∧ (1 ≤ p.st ∧ p.st ≤ 3) ∧ (1 ≤ p.ty ∧ p.ty ≤ 3) := by
  have hr := pvalid_h hv
  have hv' := hv
  unfold pvalid at hv
  simp only [Bool.and_eq_true, Bool.or_eq_true, beq_iff_eq] at hv
  obtain ⟨⟨hq, hc⟩, hi⟩ := hv
  unfold vseq vsz mbs at hq
  simp only [Bool.and_eq_true, Bool.or_eq_true, beq_iff_eq, decide_eq_true_eq, Bool.not_eq_true'] at hq
  unfold codd at hc
  simp only [Bool.and_eq_true, decide_eq_true_eq] at hc
  have h1 : s.w % 16 = 0 := by have := hq.1.1.1; rw [← tmod_pos _ _ (by omega)]; simp_all
  have h2 : s.h % 16 = 0 := by have := hq.1.1.2; rw [← tmod_pos _ _ (by omega)]; simp_all
  have h3 : s.il = true → s.h % 32 = 0 := fun e => by
    rcases hq.1.2 with h | h
    · rw [e] at h; cases h
    · rw [← tmod_pos _ _ (by omega)]; exact h
  have e1 : s.h.tdiv 16 = s.h / 16 := tdiv_pos _ _ (by omega)
  have e2 : s.h.tdiv 32 = s.h / 32 := tdiv_pos _ _ (by omega)
  have e3 : s.h.tdiv 2 = s.h / 2 := tdiv_pos _ _ (by omega)
  have hst : p.st ≠ 3 → s.il = true := fun h => by
    rcases hi with h' | h'
    · exact h'
    · exact absurd h'.1.1 h
  by_cases h : p.st = 3
  · refine ⟨(s.w / 16).toNat, (s.h / 16).toNat, by omega, by omega, by omega, ?_, ?_, fun _ => by omega, fun h' => absurd h h', by omega, by omega⟩
    · unfold hgt; rw [if_pos h]; omega
    · unfold prows; rw [if_pos hv', if_pos h, e1]; omega
  · have h32 := h3 (hst h)
    refine ⟨(s.w / 16).toNat, (s.h / 32).toNat, by omega, by omega, by omega, ?_, ?_, fun h' => absurd h' h, fun _ => ⟨by omega, hst h⟩, by omega, by omega⟩
    · unfold hgt; rw [if_neg h, e3]; omega
    · unfold prows; rw [if_pos hv', if_neg h, e2]; omega

/-- A reference picture that is missing, or of this size. -/
def mOr (f : Fm) (w h : Int) : Bool := decide (f.w = 0) || (fmd f && (decide (f.w = w) && decide (f.h = h)))
theorem mOr_ok (f : Fm) (w h : Int) (H : Heap) : CallOk Tryz.prog 117 [.agg (fmc f), .int .i64 w, .int .i64 h] H (.bool (mOr f w h)) H := by
  have fo := fun K => formed_ok f K
  unfold mOr
  generalize fmd f = b at fo ⊢
  obtain ⟨fw, fh, y, u, v⟩ := f
  simp only [fmc] at fo ⊢
  refine CallOk.body (F0 := [(0, .agg [.int .i64 fw, .int .i64 fh, .slice (bs y) y.length false, .slice (bs u) u.length false, .slice (bs v) v.length false]), (1, .int .i64 w), (2, .int .i64 h)]) Tryz.func117 rfl Tryz.ntmps117 Tryz.results117 rfl (by kernel_rfl) rfl ?_
  (repeat refine PW.seq ?_); refine PW.rg rfl fun K hK => ?_; simp (disch := omega) only [go_sem, ↓reduceIte, reduceCtorEq, pappend, plen]; refine hK _ _ ?_; clear hK K
  (repeat refine PW.seq ?_); refine PW.rg rfl fun K hK => ?_; simp (disch := omega) only [go_sem, ↓reduceIte, reduceCtorEq, pappend, plen]; (repeat' (first | ((first | refine VO_cond ?_ ?_ | refine VOd_cond ?_ ?_ | refine VOg_cond ?_ ?_ | refine VOh_cond ?_ ?_ | refine VOi_cond ?_ ?_ | refine And.intro ?_ ?_) <;> intro h <;> (try simp only [Bool.not_eq_true', Bool.not_eq_false', decide_eq_true_eq, decide_eq_false_iff_not] at h) <;> simp (disch := omega) only [go_sem, ↓reduceIte, reduceCtorEq, pappend, plen, h]) | ((first | refine VCx.call (fo _) rfl ?_ | refine VCy.call (fo _) rfl ?_ | refine VCz.call (fun _ => fo _) rfl ?_ | refine VCk.call (fun _ _ => fo _) rfl ?_ | refine VCj.now (fo _) rfl ?_); simp (disch := omega) only [go_sem, ↓reduceIte, reduceCtorEq, pappend, plen])))
  all_goals (refine hK _ _ ?_; clear hK; (refine PW.ret ⟨_, rfl, ?_⟩; first | refine .inl ⟨?_, rfl⟩ | refine Fin.base (.id' ?_ (.bool _)) | refine Fin.base (.id' ?_ (.int _ _))); (simp_all [slot, Nat.beq] <;> first | rfl | omega | (rw [Bool.eq_iff_iff]; simp; done) | (rw [Bool.eq_iff_iff]; simp; omega)))
/-- The error of Decode. -/
def decE (s : Sq) (p : Pi) (pa fu fi : Fm) (b : Bool) : Int :=
  if (fitB s p b && (mOr pa s.w s.h && (mOr fu s.w s.h && mOr fi s.w (s.h.tdiv 2)))) = true then (if ((!decide (p.ty = 1) && decide (pa.w = 0)) || ((decide (p.ty = 3) && decide (fu.w = 0)) || (decide (p.ty = 2) && (b && decide (fi.w = 0))))) = true then 6 else 0) else 1

set_option maxHeartbeats 1600000 in
theorem dec_ok (s : Sq) (p : Pi) (pa fu fi : Fm) (b : Bool) (hs : SqOk s) (H : Heap) : CallOk Tryz.prog 55 [.agg (sqc s), .agg (pic p), .agg (fmc pa ++ (fmc fu ++ fmc fi)), .bool b] H (.int .i64 (decE s p pa fu fi b)) H := by
  have fo := fun K => fits_ok s p b K hs
  have h1 := sqk_cell s
  have h2 := sqk_len s hs
  have h3 := sqc_tk s hs
  have h4 := sqc_w s
  have h5 : (sqc s)[1]? = some (.int .i64 s.h) := rfl
  have p6 : (pic p).length = 6 := rfl
  have p7 : (pic p).all PV.cell = true := rfl
  have t6 : List.take 6 (pic p) = pic p := rfl
  have ty : (pic p)[0]? = some (.int .i64 p.ty) := rfl
  have rl : (fmc pa ++ (fmc fu ++ fmc fi)).length = 15 := rfl
  have rc : (fmc pa ++ (fmc fu ++ fmc fi)).all PV.cell = true := rfl
  have r0 : List.take 5 (fmc pa ++ (fmc fu ++ fmc fi)) = fmc pa := rfl
  have r1 : List.take 5 (List.drop 5 (fmc pa ++ (fmc fu ++ fmc fi))) = fmc fu := rfl
  have r2 : List.take 5 (List.drop 10 (fmc pa ++ (fmc fu ++ fmc fi))) = fmc fi := rfl
  have w0 : (fmc pa ++ (fmc fu ++ fmc fi))[0]? = some (.int .i64 pa.w) := rfl
  have w1 : (fmc pa ++ (fmc fu ++ fmc fi))[5]? = some (.int .i64 fu.w) := rfl
  have w2 : (fmc pa ++ (fmc fu ++ fmc fi))[10]? = some (.int .i64 fi.w) := rfl
  have m1 := fun K => mOr_ok pa s.w s.h K
  have m2 := fun K => mOr_ok fu s.w s.h K
  have m3 := fun K => mOr_ok fi s.w (s.h.tdiv 2) K
  unfold decE
  generalize hbf : fitB s p b = bf at fo ⊢
  generalize mOr pa s.w s.h = b1 at m1 ⊢
  generalize mOr fu s.w s.h = b2 at m2 ⊢
  generalize mOr fi s.w (s.h.tdiv 2) = b3 at m3 ⊢
  refine CallOk.body (F0 := [(0, .agg (sqc s)), (1, .agg (pic p)), (2, .agg (fmc pa ++ (fmc fu ++ fmc fi))), (3, .bool b)]) Tryz.func55 rfl Tryz.ntmps55 Tryz.results55 rfl (by kernel_rfl) rfl ?_
  (repeat refine PW.seq ?_); refine PW.rg rfl fun K hK => ?_; simp (disch := omega) only [go_sem, ↓reduceIte, reduceCtorEq, pappend, plen, h1, p7, rc]; refine hK _ _ ?_; clear hK K
  (repeat refine PW.seq ?_); refine PW.rg rfl fun K hK => ?_; simp (disch := omega) only [go_sem, ↓reduceIte, reduceCtorEq, pappend, plen, h2, h3, p6, t6]; refine VCx.call (fo _) rfl ?_; simp (disch := omega) only [go_sem, ↓reduceIte, reduceCtorEq, pappend, plen, h2, h3, p6, t6]; refine hK _ _ ?_; clear hK K
  (repeat refine PW.seq ?_); refine PW.cond (t := _) rfl (fun h => ?_) (fun h => ?_)
  · have hb : bf = false := by simpa using h
    subst hb
    (repeat refine PW.seq ?_); refine PW.rg rfl fun K hK => ?_; simp (disch := omega) only [go_sem, ↓reduceIte, reduceCtorEq, pappend, plen]; refine hK _ _ ?_; clear hK K
    (refine PW.ret ⟨_, rfl, ?_⟩; first | refine .inl ⟨?_, rfl⟩ | refine Fin.base (.id' ?_ (.bool _)) | refine Fin.base (.id' ?_ (.int _ _)))
    rfl
  have hb : bf = true := by simpa using h
  subst hb
  have wd : IntKind.i64.wrap (s.h.tdiv 2) = s.h.tdiv 2 := by
    unfold fitB at hbf
    rw [Bool.and_eq_true] at hbf
    have := pvalid_h hbf.1
    exact wq64 _ _ (by omega)
  refine PW.skip ?_
  (repeat refine PW.seq ?_)
  refine PW.rgv (P := Tryz.prog) [3, 5, 6] 42 (.bool (!(b1 && (b2 && b3)))) ?_ ?_ ?_
  · rfl
  · simp (disch := omega) only [go_sem, ↓reduceIte, reduceCtorEq, pappend, plen, h2, h4, h5, rl, r0, r1, r2]; (repeat' (first | ((first | refine VO_cond ?_ ?_ | refine VOd_cond ?_ ?_ | refine VOg_cond ?_ ?_ | refine VOh_cond ?_ ?_ | refine VOi_cond ?_ ?_ | refine And.intro ?_ ?_) <;> intro h <;> (try simp only [Bool.not_eq_true', Bool.not_eq_false', decide_eq_true_eq, decide_eq_false_iff_not] at h) <;> simp (disch := omega) only [go_sem, ↓reduceIte, reduceCtorEq, pappend, plen, h2, h4, h5, rl, r0, r1, r2, wd, h]) | ((first | refine VCx.call (m1 _) rfl ?_ | refine VCx.call (m2 _) rfl ?_ | refine VCx.call (m3 _) rfl ?_ | refine VCy.call (m1 _) rfl ?_ | refine VCy.call (m2 _) rfl ?_ | refine VCy.call (m3 _) rfl ?_ | refine VCz.call (fun _ => m1 _) rfl ?_ | refine VCz.call (fun _ => m2 _) rfl ?_ | refine VCz.call (fun _ => m3 _) rfl ?_ | refine VCk.call (fun _ _ => m1 _) rfl ?_ | refine VCk.call (fun _ _ => m2 _) rfl ?_ | refine VCk.call (fun _ _ => m3 _) rfl ?_ | refine VCj.now (m1 _) rfl ?_ | refine VCj.now (m2 _) rfl ?_ | refine VCj.now (m3 _) rfl ?_); simp (disch := omega) only [go_sem, ↓reduceIte, reduceCtorEq, pappend, plen, h2, h4, h5, rl, r0, r1, r2, wd])))
    all_goals (clear hbf wd m1 m2 m3 fo h1 h2 h3 h4 h5 rl rc r0 r1 r2 w0 w1 w2 p6 p7 t6 ty; (simp_all [slot, Nat.beq] <;> first | rfl | omega | (rw [Bool.eq_iff_iff]; simp; done) | (rw [Bool.eq_iff_iff]; simp; omega)))
  (repeat refine PW.seq ?_); refine PW.cond (t := _) rfl (fun h => ?_) (fun h => ?_)
  · have hb : (b1 && (b2 && b3)) = false := by cases b1 <;> cases b2 <;> cases b3 <;> simp_all
    rw [hb]
    (repeat refine PW.seq ?_); refine PW.rg rfl fun K hK => ?_; simp (disch := omega) only [go_sem, ↓reduceIte, reduceCtorEq, pappend, plen]; refine hK _ _ ?_; clear hK K
    (refine PW.ret ⟨_, rfl, ?_⟩; first | refine .inl ⟨?_, rfl⟩ | refine Fin.base (.id' ?_ (.bool _)) | refine Fin.base (.id' ?_ (.int _ _)))
    rfl
  have hb : (b1 && (b2 && b3)) = true := by cases b1 <;> cases b2 <;> cases b3 <;> simp_all
  rw [hb]
  clear hbf m1 m2 m3 fo hb h wd
  refine PW.skip ?_
  (repeat' (first | refine PW.seq ?_ | refine PW.skip ?_ | refine PW.block ?_ | (refine PW.rg rfl fun K hK => ?_; simp (disch := omega) only [go_sem, ↓reduceIte, reduceCtorEq, pappend, plen, p6, ty, rl, w0, w1, w2]) | (refine PW.draw mix (by kernel_rfl) fun K hK => ?_; simp (disch := omega) only [go_sem, ↓reduceIte, reduceCtorEq, pappend, plen, p6, ty, rl, w0, w1, w2]) | (refine PW.drawg mix (by kernel_rfl) fun K hK => ?_; simp (disch := omega) only [go_sem, ↓reduceIte, reduceCtorEq, pappend, plen, p6, ty, rl, w0, w1, w2]) | (refine PW.drawt [] [] mix (by kernel_rfl) fun K hK => ?_; simp (disch := omega) only [go_sem, ↓reduceIte, reduceCtorEq, pappend, plen, p6, ty, rl, w0, w1, w2]) | ((first | refine VO_cond ?_ ?_ | refine VOd_cond ?_ ?_ | refine VOg_cond ?_ ?_ | refine VOh_cond ?_ ?_ | refine VOi_cond ?_ ?_ | refine And.intro ?_ ?_) <;> intro h <;> (try simp only [Bool.not_eq_true', Bool.not_eq_false', decide_eq_true_eq, decide_eq_false_iff_not] at h) <;> simp (disch := omega) only [go_sem, ↓reduceIte, reduceCtorEq, pappend, plen, p6, ty, rl, w0, w1, w2, h]) | (refine hK _ _ ?_; clear hK K) | (refine PW.cond (t := _) rfl (fun h => ?_) (fun h => ?_) <;> (try (cases h; done)) <;> (try simp only [Bool.not_eq_true', Bool.not_eq_false', decide_eq_true_eq, decide_eq_false_iff_not] at h))))
  all_goals ((refine PW.ret ⟨_, rfl, ?_⟩; first | refine .inl ⟨?_, rfl⟩ | refine Fin.base (.id' ?_ (.bool _)) | refine Fin.base (.id' ?_ (.int _ _))); clear h1 h2 h3 h4 h5 rl rc r0 r1 r2 w0 w1 w2 p6 p7 t6 ty; (simp_all [slot, Nat.beq] <;> first | rfl | omega | (rw [Bool.eq_iff_iff]; simp; done) | (rw [Bool.eq_iff_iff]; simp; omega)))

/-! ### concealment -/
def conF (s : Sq) (p : Pi) (pa : Fm) : Fm := if pa.w = 0 then flt (s.w / 16).toNat (hgt s p / 16).toNat else if p.st = 3 then pa else fieldOf pa (p.st - 1)
theorem fvd_of {s : Sq} {p : Pi} {f : Fm} (hv : pvalid s p = true) (hf : fmd f = true) (hw : f.w = s.w) (hh : f.h = s.h) : fvd f = true ∧ (p.st ≠ 3 → f.h % 32 = 0) := by
  obtain ⟨A, B, a1, b1, ew, eh, er, e3, e4, st, _⟩ := pv_sz hv
  by_cases h : p.st = 3
  · have := e3 h
    refine ⟨?_, fun h' => absurd h h'⟩
    unfold fvd
    simp only [hf, Bool.true_and, Bool.and_eq_true, decide_eq_true_eq]
    omega
  · have := (e4 h).1
    refine ⟨?_, fun _ => by omega⟩
    unfold fvd
    simp only [hf, Bool.true_and, Bool.and_eq_true, decide_eq_true_eq]
    omega
theorem fieldP (f : Fm) (s : Int) (hf : fvd f = true) (h32 : f.h % 32 = 0) (hs : s = 0 ∨ s = 1) (L : Heap) : CallOk Tryz.prog 119 [.agg (fmc f), .int .i64 s] L (.tup [.agg (fmc (fieldOf f s)), .int .i64 0]) L := by
  obtain ⟨w, ht, y, u, v⟩ := f
  obtain ⟨V, K, rfl, rfl, hok⟩ := fvd_fr4 hf h32
  obtain ⟨P, hP, rfl⟩ : ∃ P : Nat, P ≤ 1 ∧ s = (P : Int) := by
    rcases hs with e | e
    · exact ⟨0, by omega, by omega⟩
    · exact ⟨1, by omega, by omega⟩
  have e1 := fieldOf_fr4 V K P y u v
  have e2 := field_ok V K P y u v L hok hP
  unfold fr4 at e1 e2
  rw [e1]; exact e2

set_option maxHeartbeats 1600000 in
set_option maxRecDepth 10000 in
theorem con_ok (s : Sq) (p : Pi) (pa : Fm) (hs : SqOk s) (hv : pvalid s p = true) (hm : mOr pa s.w s.h = true) (H : Heap) : CallOk Tryz.prog 56 [.agg (sqc s), .agg (pic p), .agg (fmc pa)] H (.tup [.agg (fmc (conF s p pa)), .int .i64 0]) H := by
  have h1 := sqk_cell s
  have h2 := sqk_len s hs
  have h3 := sqc_tk s hs
  have h4 := sqc_w s
  have p6 : (pic p).length = 6 := rfl
  have p7 : (pic p).all PV.cell = true := rfl
  have t6 : List.take 6 (pic p) = pic p := rfl
  have st : (pic p)[1]? = some (.int .i64 p.st) := rfl
  have F5 : ∀ g : Fm, (fmc g).all PV.cell = true := fun _ => rfl
  have F7 : ∀ g : Fm, (fmc g).length = 5 := fun _ => rfl
  have F8 : ∀ g : Fm, List.take 5 (fmc g) = fmc g := fun _ => rfl
  have z9 : List.drop 5 [PV.int .i64 0, PV.int .i64 0, PV.slice [] 0 true, PV.slice [] 0 true, PV.slice [] 0 true] = [] := rfl
  have w0 : (fmc pa)[0]? = some (.int .i64 pa.w) := rfl
  obtain ⟨A, B, a1, b1, ew, eh, er, e3, e4, e5, _⟩ := pv_sz hv
  have ho := fun K => hgt_ok s p K hs (by have := pvalid_h hv; omega)
  refine CallOk.body (F0 := [(0, .agg (sqc s)), (1, .agg (pic p)), (2, .agg (fmc pa))]) Tryz.func56 rfl Tryz.ntmps56 Tryz.results56 rfl (by kernel_rfl) rfl ?_
  (repeat refine PW.seq ?_); refine PW.rg rfl fun K hK => ?_; simp (disch := omega) only [go_sem, ↓reduceIte, reduceCtorEq, pappend, plen, h1, p7, F5]; refine hK _ _ ?_; clear hK K
  (repeat refine PW.seq ?_); refine PW.block ?_
  (repeat refine PW.seq ?_); refine PW.rg rfl fun K hK => ?_; simp (disch := omega) only [go_sem, ↓reduceIte, reduceCtorEq, pappend, plen, w0, F7]; refine hK _ _ ?_; clear hK K
  (repeat refine PW.seq ?_); refine PW.cond (t := _) rfl (fun h => ?_) (fun h => ?_)
  · have hz : pa.w = 0 := by simpa using h
    have hc : conF s p pa = flt A B := by
      unfold conF
      rw [if_pos hz, ew, eh]
      congr 1 <;> omega
    rw [hc]
    rw [eh] at ho
    rw [ew] at h4
    have fl := fun K => flatG_ok A B a1 b1 K
    generalize flt A B = g at fl ⊢
    (repeat refine PW.seq ?_); refine PW.drawi [H.length + 3] [(6, [0])] [] [16, 17] mix (by kernel_rfl) (by simp <;> omega) fun K hK => ?_
    simp (disch := omega) only [go_sem, ↓reduceIte, reduceCtorEq, pappend, plen, arith, h2, h3, h4, p6, t6]
    refine VCj.read (fun _ _ => ho _) rfl ?_
    simp (disch := omega) only [go_sem, ↓reduceIte, reduceCtorEq, pappend, plen]
    refine VCj.read (fun _ _ => fl _) rfl ?_
    simp (disch := omega) only [go_sem, ↓reduceIte, reduceCtorEq, pappend, plen, F5, F7, z9]
    refine hK _ _ ?_; clear hK K
    refine PW.ret ⟨.tup [.agg (fmc g), .int .i64 0], by simp (disch := omega) only [go_sem, ↓reduceIte, reduceCtorEq, pappend, plen, presults, presult, List.mapM_cons, List.mapM_nil, Option.pure_def, Option.bind_eq_bind, Option.bind_some, Array.toList, F7, F8], ?_⟩
    exact Fin.base (.id (fe_scoped _ _ _ _ _ _ _ _ _ _))
  have hz : pa.w ≠ 0 := by simpa using h
  have hm2 : fmd pa = true ∧ pa.w = s.w ∧ pa.h = s.h := by
    unfold mOr at hm
    simpa [hz] using hm
  obtain ⟨hfv, h32⟩ := fvd_of hv hm2.1 hm2.2.1 hm2.2.2
  have hc : conF s p pa = if p.st = 3 then pa else fieldOf pa (p.st - 1) := if_neg hz
  rw [hc]
  (repeat refine PW.seq ?_); refine PW.rg rfl fun K hK => ?_; simp (disch := omega) only [go_sem, ↓reduceIte, reduceCtorEq, pappend, plen, st, p6]; refine hK _ _ ?_; clear hK K
  (repeat refine PW.seq ?_); refine PW.cond (t := _) rfl (fun h => ?_) (fun h => ?_)
  · have h1' : p.st = 1 := by simpa using h
    rw [if_neg (by omega), h1']
    have fl := fun K => fieldP pa 0 hfv (h32 (by omega)) (.inl rfl) K
    change ∀ K, CallOk _ _ _ K (.tup [.agg (fmc (fieldOf pa (1 - 1))), _]) K at fl
    generalize fieldOf pa (1 - 1) = g at fl ⊢
    (repeat refine PW.seq ?_); refine PW.rg rfl fun K hK => ?_; simp (disch := omega) only [go_sem, ↓reduceIte, reduceCtorEq, pappend, plen, F5, F7, F8, z9]; refine VCx.call (fl _) rfl ?_; simp (disch := omega) only [go_sem, ↓reduceIte, reduceCtorEq, pappend, plen, F5, F7, F8, z9]; refine hK _ _ ?_; clear hK K
    refine PW.ret ⟨.tup [.agg (fmc g), .int .i64 0], by simp (disch := omega) only [go_sem, ↓reduceIte, reduceCtorEq, pappend, plen, presults, presult, List.mapM_cons, List.mapM_nil, Option.pure_def, Option.bind_eq_bind, Option.bind_some, Array.toList, F7, F8], ?_⟩
    exact Fin.base (.id (fe_scoped _ _ _ _ _ _ _ _ _ _))
  have h1' : p.st ≠ 1 := by simpa using h
  (repeat refine PW.seq ?_); refine PW.rg rfl fun K hK => ?_; simp (disch := omega) only [go_sem, ↓reduceIte, reduceCtorEq, pappend, plen, st, p6]; refine hK _ _ ?_; clear hK K
  (repeat refine PW.seq ?_); refine PW.cond (t := _) rfl (fun h => ?_) (fun h => ?_)
  · have h2' : p.st = 2 := by simpa using h
    rw [if_neg (by omega), h2']
    have fl := fun K => fieldP pa 1 hfv (h32 (by omega)) (.inr rfl) K
    change ∀ K, CallOk _ _ _ K (.tup [.agg (fmc (fieldOf pa (2 - 1))), _]) K at fl
    generalize fieldOf pa (2 - 1) = g at fl ⊢
    (repeat refine PW.seq ?_); refine PW.rg rfl fun K hK => ?_; simp (disch := omega) only [go_sem, ↓reduceIte, reduceCtorEq, pappend, plen, F5, F7, F8, z9]; refine VCx.call (fl _) rfl ?_; simp (disch := omega) only [go_sem, ↓reduceIte, reduceCtorEq, pappend, plen, F5, F7, F8, z9]; refine hK _ _ ?_; clear hK K
    refine PW.ret ⟨.tup [.agg (fmc g), .int .i64 0], by simp (disch := omega) only [go_sem, ↓reduceIte, reduceCtorEq, pappend, plen, presults, presult, List.mapM_cons, List.mapM_nil, Option.pure_def, Option.bind_eq_bind, Option.bind_some, Array.toList, F7, F8], ?_⟩
    exact Fin.base (.id (fe_scoped _ _ _ _ _ _ _ _ _ _))
  have h2' : p.st ≠ 2 := by simpa using h
  rw [if_pos (by omega)]
  refine PW.skip ?_
  obtain ⟨A', B', c1, c2, c3, c4, gw, gh, ly, lu, lv⟩ := fvd_nat hfv
  have nb := nAB (A := A') (B := B') ⟨c1, c2⟩ ⟨c3, c4⟩
  have q1 : 16 * A' * (16 * B') = 256 * (A' * B') := by rw [Nat.mul_mul_mul_comm]
  have q2 : 8 * A' * (8 * B') = 64 * (A' * B') := by rw [Nat.mul_mul_mul_comm]
  obtain ⟨w, ht, y, u, v⟩ := pa
  simp only at ly lu lv
  have c1 := fun K => clone_ok y false K (by omega)
  have c2 := fun K => clone_ok u false K (by omega)
  have c3 := fun K => clone_ok v false K (by omega)
  clear hc hm hfv h32 q1 q2 ly lu lv
  unfold fmc
  (repeat refine PW.seq ?_); refine PW.draw mix (by kernel_rfl) fun K hK => ?_; simp (disch := omega) only [go_sem, ↓reduceIte, reduceCtorEq, pappend, plen]
  (repeat' (first | ((first | refine VO_cond ?_ ?_ | refine VOd_cond ?_ ?_ | refine VOg_cond ?_ ?_ | refine VOh_cond ?_ ?_ | refine VOi_cond ?_ ?_ | refine And.intro ?_ ?_) <;> intro h <;> (try simp only [Bool.not_eq_true', Bool.not_eq_false', decide_eq_true_eq, decide_eq_false_iff_not] at h) <;> simp (disch := omega) only [go_sem, ↓reduceIte, reduceCtorEq, pappend, plen, h]) | ((first | refine VCx.call (c1 _) rfl ?_ | refine VCx.call (c2 _) rfl ?_ | refine VCx.call (c3 _) rfl ?_ | refine VCy.call (c1 _) rfl ?_ | refine VCy.call (c2 _) rfl ?_ | refine VCy.call (c3 _) rfl ?_ | refine VCz.call (fun _ => c1 _) rfl ?_ | refine VCz.call (fun _ => c2 _) rfl ?_ | refine VCz.call (fun _ => c3 _) rfl ?_ | refine VCk.call (fun _ _ => c1 _) rfl ?_ | refine VCk.call (fun _ _ => c2 _) rfl ?_ | refine VCk.call (fun _ _ => c3 _) rfl ?_ | refine VCj.now (c1 _) rfl ?_ | refine VCj.now (c2 _) rfl ?_ | refine VCj.now (c3 _) rfl ?_); simp (disch := omega) only [go_sem, ↓reduceIte, reduceCtorEq, pappend, plen])))
  refine hK _ _ ?_; clear hK K
  refine PW.ret ⟨.tup [.agg [.int .i64 w, .int .i64 ht, .slice (bs y) y.length false, .slice (bs u) u.length false, .slice (bs v) v.length false], .int .i64 0], by simp (disch := omega) only [go_sem, ↓reduceIte, reduceCtorEq, pappend, plen, presults, presult, List.mapM_cons, List.mapM_nil, Option.pure_def, Option.bind_eq_bind, Option.bind_some, Array.toList], ?_⟩
  exact Fin.base (.id (fe_scoped _ _ _ _ _ _ _ _ _ _))

end Go.Proofs.YtahomnplappbpaaGreatDoor.Sc

namespace Go.Proofs.YtahomnplappbpaaGreatDoor.Sc
set_option linter.all false
set_option linter.unusedVariables false
set_option linter.unusedSimpArgs false
open Pm Ty Go.RowKit

/-! ### the map -/
theorem pfind_snoc (d : TypeDesc) (k a v : PV) : ∀ (xs : List PV) (i : Nat), pfind d k (xs ++ [.tup [a, v]]) i = match pfind d k xs i with
    | some (some r) => some (some r)
    | some none => (match peqS d k a with | some true => some (some (i + xs.length, v)) | some false => some none | none => none)
    | none => none
  | [], i => by
    simp only [List.nil_append, pfind, List.length_nil, Nat.add_zero]
    cases peqS d k a with
    | none => rfl
    | some t => cases t <;> rfl
  | x :: r, i => by
    rw [List.cons_append]
    have ih := pfind_snoc d k a v r (i + 1)
    match x with
    | .tup [b, u] =>
      simp only [pfind]
      cases peqS d k b with
      | none => rfl
      | some t =>
        cases t with
        | true => rfl
        | false =>
          dsimp only
          rw [ih, show i + 1 + r.length = i + (.tup [b, u] :: r : List PV).length by simp; omega]
    | .tup [] => rfl
    | .tup [_] => rfl
    | .tup (_ :: _ :: _ :: _) => rfl
    | .int _ _ => rfl
    | .bool _ => rfl
    | .str _ => rfl
    | .nilp => rfl
    | .nl _ => rfl
    | .undef => rfl
    | .ptr _ _ _ => rfl
    | .ip _ _ => rfl
    | .slice _ _ _ => rfl
    | .msl _ _ _ _ _ _ => rfl
    | .mp _ _ => rfl
    | .agg _ => rfl
    | .func _ _ _ => rfl
    | .yl _ _ _ => rfl
    | .lp _ _ => rfl
/-- Type -> row. -/
def rowm : Nat → List PV
  | 0 => []
  | i + 1 => rowm i ++ [.tup [.int .i64 (1 + (i : Int)), .int .i64 (i : Int)]]
theorem rowm_find (t : Int) : ∀ r : Nat, ((1 ≤ t ∧ t < 1 + (r : Int)) → ∃ p, pfind (.int .i64) (.int .i64 t) (rowm r) 0 = some (some (p, .int .i64 (t - 1)))) ∧ (¬(1 ≤ t ∧ t < 1 + (r : Int)) → pfind (.int .i64) (.int .i64 t) (rowm r) 0 = some none)
  | 0 => ⟨fun h => by omega, fun _ => rfl⟩
  | r + 1 => by
    obtain ⟨ih1, ih2⟩ := rowm_find t r
    rw [rowm, pfind_snoc]
    by_cases h : 1 ≤ t ∧ t < 1 + (r : Int)
    · obtain ⟨p, hp⟩ := ih1 h
      rw [hp]
      exact ⟨fun _ => ⟨p, rfl⟩, fun h2 => by omega⟩
    · rw [ih2 h]
      by_cases h2 : t = 1 + (r : Int)
      · have : peqS (.int .i64) (.int .i64 t) (.int .i64 (1 + (r : Int))) = some true := by simp [peqS, h2]
        rw [this]
        refine ⟨fun _ => ⟨0 + (rowm r).length, ?_⟩, fun h3 => by omega⟩
        dsimp only
        rw [show t - 1 = (r : Int) by omega]
      · have : peqS (.int .i64) (.int .i64 t) (.int .i64 (1 + (r : Int))) = some false := by simp [peqS, h2]
        rw [this]
        exact ⟨fun h3 => by omega, fun _ => rfl⟩
def mpB (r : Nat) : Blk := ⟨136, 0, rowm r⟩

set_option maxHeartbeats 2000000 in
theorem rbt_ok (r : Nat) (H : Heap) (hr : r ≤ 1000) : CallOk Tryz.prog 58 [.int .i64 (r : Int)] H (.mp H.length 0) (H ++ [mpB r]) := by
  refine CallOk.body (F0 := [(0, .int .i64 (r : Int))]) Tryz.func58 rfl Tryz.ntmps58 Tryz.results58 rfl (by kernel_rfl) rfl ?_
  (repeat refine PW.seq ?_); refine PW.rg rfl fun K hK => ?_; simp (disch := omega) only [go_sem, ↓reduceIte, reduceCtorEq, pappend, plen]; refine hK _ _ ?_; clear hK K
  (repeat refine PW.seq ?_); refine PW.rg rfl fun K hK => ?_; simp (disch := omega) only [go_sem, ↓reduceIte, reduceCtorEq, pappend, plen]; refine hK _ _ ?_; clear hK K
  (repeat refine PW.seq ?_); refine PW.rg rfl fun K hK => ?_; simp (disch := omega) only [go_sem, ↓reduceIte, reduceCtorEq, pappend, plen]; refine hK _ _ ?_; clear hK K
  (repeat refine PW.seq ?_); refine PW.block (PW.loop ?_)
  suffices hl1 : ∀ j : Nat, j ≤ r → PL Tryz.prog _ _ [(3, .mp H.length 0), (6, .int .i64 (r : Int)), (7, .int .i64 (j : Int))] (H ++ [⟨136, 0, rowm j⟩]) _ by
    exact PL.at [3, 6, 7] (hl1 0 (by omega)) rfl rfl
  intro j hj
  induction hd : r - j using Nat.strongRecOn generalizing j with
  | _ d ih =>
    refine PL.round ?_; (repeat refine PW.seq ?_); refine PW.rg rfl fun K hK => ?_; simp (disch := omega) only [go_sem, ↓reduceIte, reduceCtorEq, pappend, plen]; refine hK _ _ ?_; clear hK K
    (repeat refine PW.seq ?_); refine PW.cond (t := _) rfl (fun h => ?_) (fun h => ?_)
    · have hjr : j < r := by have := of_decide_eq_true h; omega
      have hp := (rowm_find (1 + (j : Int)) j).2 (by omega)
      refine PW.skip ?_; (repeat refine PW.seq ?_); refine PW.block ?_
      (repeat refine PW.seq ?_); refine PW.rg rfl fun K hK => ?_; simp (disch := omega) only [go_sem, ↓reduceIte, reduceCtorEq, pappend, plen]; refine hK _ _ ?_; clear hK K
      (repeat refine PW.seq ?_); refine PW.rg rfl fun K hK => ?_; simp (disch := omega) only [go_sem, ↓reduceIte, reduceCtorEq, pappend, plen, hp, pmset, pmapOf, scalT]; refine hK _ _ ?_; clear hK K
      (repeat refine PW.seq ?_); refine PW.rg rfl fun K hK => ?_; simp (disch := omega) only [go_sem, ↓reduceIte, reduceCtorEq, pappend, plen]; refine hK _ _ ?_; clear hK K
      exact PL.at [3, 6, 7] (ih (r - (j + 1)) (by omega) (j + 1) (by omega) rfl) rfl rfl
    · have hjr : j = r := by have := of_decide_eq_false h; omega
      subst hjr
      refine PW.exit ?_
      (repeat refine PW.seq ?_); refine PW.rg rfl fun K hK => ?_; simp (disch := omega) only [go_sem, ↓reduceIte, reduceCtorEq, pappend, plen]; refine hK _ _ ?_; clear hK K
      refine PW.ret ⟨.mp H.length 0, by simp (disch := omega) only [go_sem, ↓reduceIte, reduceCtorEq, pappend, plen, presults, presult, List.mapM_cons, List.mapM_nil, Option.pure_def, Option.bind_eq_bind, Option.bind_some, Array.toList], ?_⟩
      exact Fin.now

end Go.Proofs.YtahomnplappbpaaGreatDoor.Sc
