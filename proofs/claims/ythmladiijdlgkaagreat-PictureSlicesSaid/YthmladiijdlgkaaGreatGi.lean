/-
  Contracts of chapter 10: which macroblocks are formed, the code's function.
-/
import Derived.Test.YthmladiijdlgkaaGreatGh
namespace Go.Proofs.YthmladiijdlgkaaGreat.Sc
set_option linter.all false
set_option linter.unusedVariables false
set_option linter.unusedSimpArgs false
open Pm Ty Go.RowKit
theorem opMb (F : Nat → PV) (H : Heap) : pop Tryz.prog (.build 68 #[]) F H = some (.agg zmv, H) := by
  show (pbuild Tryz.prog 68 []).map (fun v => (v, H)) = _
  rw [bld_mb]; rfl
theorem opLv (F : Nat → PV) (H : Heap) : pop Tryz.prog (.build 66 #[]) F H = some (.agg (is zl384), H) := by
  show (pbuild Tryz.prog 66 []).map (fun v => (v, H)) = _
  rw [bld_lv]; rfl
theorem stpMb (ds : List (Option Nat)) (d : Option Nat) (t : TypeId) (a : Array Edge) (g : Option (Nat × Bool)) (p : String) (F : Fr) (H : Heap) : stp Tryz.prog ds { op := .build 68 #[], dst := d, type := t, after := a, guard := g, pos := p } F H = match asked ds F { op := .build 68 #[], dst := d, type := t, after := a, guard := g, pos := p } with
    | none => none
    | some b => cond b (some (put F d (.agg zmv), H)) (some (put F d (.tup []), H)) := by
  rw [stp_eq, opMb]; rfl
theorem stpLv (ds : List (Option Nat)) (d : Option Nat) (t : TypeId) (a : Array Edge) (g : Option (Nat × Bool)) (p : String) (F : Fr) (H : Heap) : stp Tryz.prog ds { op := .build 66 #[], dst := d, type := t, after := a, guard := g, pos := p } F H = match asked ds F { op := .build 66 #[], dst := d, type := t, after := a, guard := g, pos := p } with
    | none => none
    | some b => cond b (some (put F d (.agg (is zl384)), H)) (some (put F d (.tup []), H)) := by
  rw [stp_eq, opLv]; rfl
theorem eqMx (k : Int) (ua ub fp fd : Bool) (va vb vc vd ve vf vg vh sa sb sc sd dl : Int) (ca cb cc cd ce cf : Bool) (lv : List Int) (hl : lv.length = 384) : peqG Tryz.prog .eql 68 (.agg (.int .i64 k :: .bool ua :: .bool ub :: .bool fp :: .bool fd :: .int .i64 va :: .int .i64 vb :: .int .i64 vc :: .int .i64 vd :: .int .i64 ve :: .int .i64 vf :: .int .i64 vg :: .int .i64 vh :: .int .i64 sa :: .int .i64 sb :: .int .i64 sc :: .int .i64 sd :: .int .i64 dl :: .bool ca :: .bool cb :: .bool cc :: .bool cd :: .bool ce :: .bool cf :: is lv)) (.agg zmv) = some (.bool (zmb ⟨k, ua, ub, fp, fd, va, vb, vc, vd, ve, vf, vg, vh, sa, sb, sc, sd, dl, ca, cb, cc, cd, ce, cf, lv⟩)) := eqMb ⟨k, ua, ub, fp, fd, va, vb, vc, vd, ve, vf, vg, vh, sa, sb, sc, sd, dl, ca, cb, cc, cd, ce, cf, lv⟩ hl
theorem eqB2 (a b : Bool) : peqG Tryz.prog .eql 60 (.agg [.bool a, .bool b]) (.agg [.bool false, .bool false]) = some (.bool ((a == false) && ((b == false) && true))) := by kernel_rfl
theorem eqB6 (a b c d e f : Bool) : peqG Tryz.prog .eql 64 (.agg [.bool a, .bool b, .bool c, .bool d, .bool e, .bool f]) (.agg [.bool true, .bool true, .bool true, .bool true, .bool true, .bool true]) = some (.bool ((a == true) && ((b == true) && ((c == true) && ((d == true) && ((e == true) && ((f == true) && true))))))) := by kernel_rfl
theorem eqV4 (a b c d e f g h : Int) : peqG Tryz.prog .eql 61 (.agg [.int .i64 a, .int .i64 b, .int .i64 c, .int .i64 d, .int .i64 e, .int .i64 f, .int .i64 g, .int .i64 h]) (.agg [.int .i64 0, .int .i64 0, .int .i64 0, .int .i64 0, .int .i64 0, .int .i64 0, .int .i64 0, .int .i64 0]) = some (.bool ((((a == 0) && ((b == 0) && true)) && (((c == 0) && ((d == 0) && true)) && true)) && ((((e == 0) && ((f == 0) && true)) && (((g == 0) && ((h == 0) && true)) && true)) && true))) := by kernel_rfl
theorem eqI4 (a b c d : Int) : peqG Tryz.prog .eql 63 (.agg [.int .i64 a, .int .i64 b, .int .i64 c, .int .i64 d]) (.agg [.int .i64 0, .int .i64 0, .int .i64 0, .int .i64 0]) = some (.bool (((a == 0) && ((b == 0) && true)) && (((c == 0) && ((d == 0) && true)) && true))) := by kernel_rfl
theorem allB_ok (H : Heap) : CallOk Tryz.prog 62 [] H (.agg [.bool true, .bool true, .bool true, .bool true, .bool true, .bool true]) H := by
  refine CallOk.body (F0 := []) Tryz.func62 rfl Tryz.ntmps62 Tryz.results62 rfl (by kernel_rfl) rfl ?_
  (repeat refine PW.seq ?_); refine PW.rg rfl fun K hK => ?_; simp (disch:=omega) only [go_sem]; refine hK _ _ ?_; clear hK K
  (repeat refine PW.seq ?_); refine PW.rg rfl fun K hK => ?_; simp (disch:=omega) only [go_sem, ↓reduceIte]; refine hK _ _ ?_; clear hK K
  refine PW.ret ⟨.agg [.bool true, .bool true, .bool true, .bool true, .bool true, .bool true], by simp (disch:=omega) only [go_sem, ↓reduceIte, presults, presult], ?_⟩
  refine Fin.base (.id (ag_scoped fun x hx => ?_))
  simp only [List.mem_cons, List.not_mem_nil, or_false, or_self] at hx
  subst hx
  exact .bool _
def zI (m : Mb) : Bool := (((m.ua == false) && ((m.ub == false) && true)) && (!m.fp && (((((m.va == 0) && ((m.vb == 0) && true)) && (((m.vc == 0) && ((m.vd == 0) && true)) && true)) && ((((m.ve == 0) && ((m.vf == 0) && true)) && (((m.vg == 0) && ((m.vh == 0) && true)) && true)) && true)) && (((m.sa == 0) && ((m.sb == 0) && true)) && (((m.sc == 0) && ((m.sd == 0) && true)) && true)))))
def aC (m : Mb) : Bool := (m.ca == true) && ((m.cb == true) && ((m.cc == true) && ((m.cd == true) && ((m.ce == true) && ((m.cf == true) && true)))))
def fmS (c : Cx) (m : Mb) : Bool := vcx c && (if m.k = 0 then !decide (c.t = 1) && zmb m else if m.k = 1 then zI m && (aC m && (fch c m && lvr m.lv)) else if m.k = 2 then intS c m else false)
theorem intS_eq (c : Cx) (m : Mb) (hk : m.k = 2) (ht : ¬c.t = 1) : intS c m = (fprd c m && (fch c m && (fbl (cdl m) m.lv && lvr m.lv))) := by
  unfold intS fprd fch
  generalize useB c m = u
  generalize d0S c m = x
  generalize d1S c m = y
  generalize lvr m.lv = l
  generalize fbl (cdl m) m.lv = f
  generalize hlM m = hh
  generalize bcx c = b
  generalize win m.dl 30 = w
  generalize m.fd = fd
  generalize m.fp = fp
  generalize decide (m.dl = 0) = dz
  rw [decide_eq_false ht]
  revert u x y l f hh b w fd fp dz
  decide
theorem intS_I (c : Cx) (m : Mb) (ht : c.t = 1) : intS c m = false := by
  unfold intS
  rw [decide_eq_true ht]; rfl
set_option maxHeartbeats 3200000 in
set_option maxRecDepth 10000 in
theorem fm_ok (c : Cx) (m : Mb) (H : Heap) (hl : m.lv.length = 384) : CallOk Tryz.prog 32 [.agg (cxc c), .agg (mbc m)] H (.bool (fmS c m)) H := by
  have vo := fun H => vcx_ok c H
  have hgt : ∀ T, (H ++ [T, mB m])[H.length + 1]? = some (mB m) := fun T => by simp
  have ho := fun T => fch_ok c m (H.length + 1) (H ++ [T, mB m]) (hgt T)
  have fo := fun T => fprd_ok c m (H.length + 1) (H ++ [T, mB m]) (hgt T)
  have bo := fun T => fbl_ok m (H.length + 1) (H ++ [T, mB m]) (hgt T) hl
  have lo := fun T => lvr_ok m (H.length + 1) (H ++ [T, mB m]) (hgt T) hl
  have ao := fun H => allB_ok H
  have hi := intS_eq c m
  have hi1 := intS_I c m
  have hr : fmS c m = (vcx c && (if m.k = 0 then !decide (c.t = 1) && zmb m else if m.k = 1 then zI m && (aC m && (fch c m && lvr m.lv)) else if m.k = 2 then intS c m else false)) := rfl
  generalize fmS c m = r at hr ⊢
  generalize vcx c = vv at vo hr
  generalize fch c m = fc at ho hi hr
  generalize fprd c m = fr at fo hi
  generalize fbl (cdl m) m.lv = fb at bo hi
  generalize lvr m.lv = lr at lo hi hr
  generalize intS c m = is0 at hi hi1 hr
  have hzm : zmb m = zmb m := rfl
  generalize hzI : zI m = zi at hr
  generalize hac : aC m = ac at hr
  have hem := eqMb m hl
  generalize zmb m = zm at hem hr
  obtain ⟨k, ua, ub, fp, fd, va, vb, vc, vd, ve, vf, vg, vh, sa, sb, sc, sd, dl, ca, cb, cc, cd, ce, cf, lv⟩ := m
  obtain ⟨t, s, ii, n⟩ := c
  clear hgt
  simp only [mB, mbc] at hr hi hi1 ho fo bo lo hl hem ⊢
  have hall := is_cell lv
  have htk : List.take 384 (is lv) = is lv := List.take_of_length_le (by rw [is_len]; omega)
  refine CallOk.body (F0 := [(0, .agg [.int .i64 t, .int .i64 s, .bool ii, .bool n]), (1, .agg (.int .i64 k :: .bool ua :: .bool ub :: .bool fp :: .bool fd :: .int .i64 va :: .int .i64 vb :: .int .i64 vc :: .int .i64 vd :: .int .i64 ve :: .int .i64 vf :: .int .i64 vg :: .int .i64 vh :: .int .i64 sa :: .int .i64 sb :: .int .i64 sc :: .int .i64 sd :: .int .i64 dl :: .bool ca :: .bool cb :: .bool cc :: .bool cd :: .bool ce :: .bool cf :: is lv))]) Tryz.func32 rfl Tryz.ntmps32 Tryz.results32 rfl (by kernel_rfl) rfl ?_
  (repeat refine PW.seq ?_); refine PW.rg rfl fun K hK => ?_; simp (disch:=omega) only [go_sem, hall]; refine hK _ _ ?_; clear hK K
  (repeat refine PW.seq ?_)
  refine PW.rgv (P := Tryz.prog) [2, 3] 18 (.bool (!vv || (!decide (k = 1) && decide (t = 1)))) ?_ ?_ ?_
  · rfl
  · simp (disch:=omega) only [go_sem, ↓reduceIte]; (repeat' (first | ((first | refine VO_cond (fun h => ?_) (fun h => ?_) | refine VOd_cond (fun h => ?_) (fun h => ?_) | refine VOg_cond (fun h => ?_) (fun h => ?_) | refine VOh_cond (fun h => ?_) (fun h => ?_) | refine VOi_cond (fun h => ?_) (fun h => ?_) | refine And.intro (fun h => ?_) (fun h => ?_)) <;> (try simp only [Bool.not_eq_true', Bool.not_eq_false'] at h) <;> simp (disch:=omega) only [go_sem, ↓reduceIte, h]) | (refine VCx.call (vo _) rfl ?_; simp (disch:=omega) only [go_sem]) | (refine VCy.call (vo _) rfl ?_; simp (disch:=omega) only [go_sem, ↓reduceIte, reduceCtorEq, pappend, plen]) | (refine VCz.call (fun _ => vo _) rfl ?_; simp (disch:=omega) only [go_sem, ↓reduceIte, reduceCtorEq, pappend, plen]) | (refine VCk.call (fun _ _ => vo _) rfl ?_; simp (disch:=omega) only [go_sem, ↓reduceIte, reduceCtorEq, pappend, plen]) | (refine VCj.now (vo _) rfl ?_; simp (disch:=omega) only [go_sem, ↓reduceIte, reduceCtorEq, pappend, plen])))
    all_goals (clear vo ho fo bo lo hi hr hall htk hem; (simp_all [] <;> first | rfl | omega | (rw [Bool.eq_iff_iff]; simp; done) | (rw [Bool.eq_iff_iff]; simp; omega)))
  (repeat refine PW.seq ?_); refine PW.cond (t := _) rfl (fun h => ?_) (fun h => ?_)
  · (repeat refine PW.seq ?_); refine PW.rg rfl fun K hK => ?_; simp (disch:=omega) only [go_sem]; refine hK _ _ ?_; clear hK K
    (refine PW.ret ⟨_, rfl, ?_⟩; first | refine .inl ⟨?_, rfl⟩ | refine Fin.base (.id' ?_ (.bool _)) | refine Fin.base (.id' ?_ (.int _ _)))
    clear vo ho fo bo lo hi hall htk hem
    rw [hr]
    cases vv
    · rfl
    · have hk1 : ¬k = 1 ∧ t = 1 := by simpa using h
      simp [hk1.1, hk1.2, hi1 hk1.2, slot]
  refine PW.skip ?_
  have hvv : vv = true ∧ (k = 1 ∨ ¬t = 1) := by
    cases vv
    · cases h
    · refine ⟨rfl, ?_⟩
      by_cases hk1 : k = 1
      · exact .inl hk1
      · exact .inr (by simpa [hk1] using h)
  rw [hvv.1, Bool.true_and] at hr
  clear vo h
  (repeat refine PW.seq ?_); refine PW.rg rfl fun K hK => ?_; simp (disch:=omega) only [go_sem, ↓reduceIte]; refine hK _ _ ?_; clear hK K
  (repeat refine PW.seq ?_); refine PW.block ?_
  (repeat refine PW.seq ?_); refine PW.rg rfl fun K hK => ?_; simp (disch:=omega) only [go_sem, ↓reduceIte]; refine hK _ _ ?_; clear hK K
  (repeat refine PW.seq ?_); refine PW.cond (t := _) rfl (fun h => ?_) (fun h => ?_)
  · have hk0 : k = 0 := of_decide_eq_true h
    subst hk0
    have ht : ¬t = 1 := by rcases hvv.2 with h1 | h1; (cases h1); exact h1
    rw [if_pos rfl, decide_eq_false ht] at hr
    (repeat refine PW.seq ?_); refine PW.rg rfl fun K hK => ?_; simp (disch:=omega) only [go_sem, ↓reduceIte, is_len, hl, htk, ↓stpMb, ↓hem]; refine hK _ _ ?_; clear hK K
    (refine PW.ret ⟨_, rfl, ?_⟩; first | refine .inl ⟨?_, rfl⟩ | refine Fin.base (.id' ?_ (.bool _)) | refine Fin.base (.id' ?_ (.int _ _)))
    rw [hr]; rfl
  have hk0 : ¬k = 0 := of_decide_eq_false h
  rw [if_neg hk0] at hr
  (repeat refine PW.seq ?_); refine PW.rg rfl fun K hK => ?_; simp (disch:=omega) only [go_sem, ↓reduceIte]; refine hK _ _ ?_; clear hK K
  (repeat refine PW.seq ?_); refine PW.cond (t := _) rfl (fun h => ?_) (fun h => ?_)
  · have hk1 : k = 1 := of_decide_eq_true h
    subst hk1
    rw [if_pos rfl] at hr
    have q1 := eqB2 ua ub
    have q2 := eqV4 va vb vc vd ve vf vg vh
    have q3 := eqI4 sa sb sc sd
    have q4 := eqB6 ca cb cc cd ce cf
    have hz2 : zi = (((ua == false) && ((ub == false) && true)) && (!fp && (((((va == 0) && ((vb == 0) && true)) && (((vc == 0) && ((vd == 0) && true)) && true)) && ((((ve == 0) && ((vf == 0) && true)) && (((vg == 0) && ((vh == 0) && true)) && true)) && true)) && (((sa == 0) && ((sb == 0) && true)) && (((sc == 0) && ((sd == 0) && true)) && true))))) := hzI.symm
    have hc2 : ac = ((ca == true) && ((cb == true) && ((cc == true) && ((cd == true) && ((ce == true) && ((cf == true) && true)))))) := hac.symm
    rw [← hc2] at q4
    generalize ((ua == false) && ((ub == false) && true)) = b1 at q1 hz2
    generalize (((((va == 0) && ((vb == 0) && true)) && (((vc == 0) && ((vd == 0) && true)) && true)) && ((((ve == 0) && ((vf == 0) && true)) && (((vg == 0) && ((vh == 0) && true)) && true)) && true))) = b2 at q2 hz2
    generalize (((sa == 0) && ((sb == 0) && true)) && (((sc == 0) && ((sd == 0) && true)) && true)) = b3 at q3 hz2
    clear hc2 hzI hac hem hi hi1 hzm fo bo
    (repeat refine PW.seq ?_)
    refine PW.rgv (P := Tryz.prog) [2, 3] 5 (.bool zi) ?_ ?_ ?_
    · rfl
    · simp (disch:=omega) only [go_sem, ↓reduceIte, ↓q1]; (repeat' ((first | refine VO_cond (fun h => ?_) (fun h => ?_) | refine VOd_cond (fun h => ?_) (fun h => ?_) | refine VOg_cond (fun h => ?_) (fun h => ?_) | refine VOh_cond (fun h => ?_) (fun h => ?_) | refine VOi_cond (fun h => ?_) (fun h => ?_) | refine And.intro (fun h => ?_) (fun h => ?_)) <;> (try simp only [Bool.not_eq_true', Bool.not_eq_false'] at h) <;> simp (disch:=omega) only [go_sem, ↓reduceIte, ↓q2, ↓q3, h]))
      all_goals (clear ho lo hr hall htk q1 q2 q3 q4; subst hz2; (simp_all [] <;> first | rfl | omega | (rw [Bool.eq_iff_iff]; simp; done) | (rw [Bool.eq_iff_iff]; simp; omega)))
    clear hz2
    cases zi
    · (repeat refine PW.seq ?_); refine PW.draw mix (by kernel_rfl) fun K hK => ?_; simp (disch:=omega) only [go_sem, ↓reduceIte]
      refine hK _ _ ?_; (refine PW.ret ⟨_, rfl, ?_⟩; first | refine .inl ⟨?_, rfl⟩ | refine Fin.base (.id' ?_ (.bool _)) | refine Fin.base (.id' ?_ (.int _ _)))
      rw [hr]; rfl
    (repeat refine PW.seq ?_); refine PW.draw mix (by kernel_rfl) fun K hK => ?_; simp (disch:=omega) only [go_sem, ↓reduceIte]; refine VCy.callP ao rfl ?_; simp (disch:=omega) only [go_sem, ↓reduceIte, ↓q4]; (repeat' (first | ((first | refine VO_cond (fun h => ?_) (fun h => ?_) | refine VOd_cond (fun h => ?_) (fun h => ?_) | refine VOg_cond (fun h => ?_) (fun h => ?_) | refine VOh_cond (fun h => ?_) (fun h => ?_) | refine VOi_cond (fun h => ?_) (fun h => ?_) | refine And.intro (fun h => ?_) (fun h => ?_)) <;> (try simp only [Bool.not_eq_true', Bool.not_eq_false', decide_eq_true_eq, decide_eq_false_iff_not] at h) <;> simp (disch:=omega) only [go_sem, h]) | (refine VCx.call (ho _) rfl ?_; simp (disch:=omega) only [go_sem, ↓reduceIte, reduceCtorEq, pappend, plen, ↓q4]) | (refine VCx.call (lo _) rfl ?_; simp (disch:=omega) only [go_sem, ↓reduceIte, reduceCtorEq, pappend, plen, ↓q4]) | (refine VCy.call (ho _) rfl ?_; simp (disch:=omega) only [go_sem]) | (refine VCy.call (lo _) rfl ?_; simp (disch:=omega) only [go_sem]) | (refine VCz.call (fun _ => ho _) rfl ?_; simp (disch:=omega) only [go_sem, ↓reduceIte, reduceCtorEq, pappend, plen, ↓q4]) | (refine VCz.call (fun _ => lo _) rfl ?_; simp (disch:=omega) only [go_sem, ↓reduceIte, reduceCtorEq, pappend, plen, ↓q4]) | (refine VCk.call (fun _ _ => ho _) rfl ?_; simp (disch:=omega) only [go_sem, ↓reduceIte, reduceCtorEq, pappend, plen, ↓q4]) | (refine VCk.call (fun _ _ => lo _) rfl ?_; simp (disch:=omega) only [go_sem, ↓reduceIte, reduceCtorEq, pappend, plen, ↓q4]) | (refine VCj.now (ho _) rfl ?_; simp (disch:=omega) only [go_sem, ↓reduceIte, reduceCtorEq, pappend, plen, ↓q4]) | (refine VCj.now (lo _) rfl ?_; simp (disch:=omega) only [go_sem, ↓reduceIte, reduceCtorEq, pappend, plen, ↓q4])))
    all_goals (refine hK _ _ ?_; (refine PW.ret ⟨_, rfl, ?_⟩; first | refine .inl ⟨?_, rfl⟩ | refine Fin.base (.id' ?_ (.bool _)) | refine Fin.base (.id' ?_ (.int _ _))); clear hK ho lo hall htk q1 q2 q3 q4; subst hr; (simp_all [slot] <;> first | rfl | omega | (rw [Bool.eq_iff_iff]; simp; done) | (rw [Bool.eq_iff_iff]; simp; omega)))
  have hk1 : ¬k = 1 := of_decide_eq_false h
  rw [if_neg hk1] at hr
  (repeat refine PW.seq ?_); refine PW.rg rfl fun K hK => ?_; simp (disch:=omega) only [go_sem, ↓reduceIte]; refine hK _ _ ?_; clear hK K
  (repeat refine PW.seq ?_); refine PW.cond (t := _) rfl (fun h => ?_) (fun h => ?_)
  · have hk2 : k = 2 := of_decide_eq_true h
    subst hk2
    have ht : ¬t = 1 := by rcases hvv.2 with h1 | h1; (cases h1); exact h1
    rw [if_pos rfl, hi rfl ht] at hr
    clear hi hi1 hzI hac hem hzm
    (repeat refine PW.seq ?_); refine PW.rg rfl fun K hK => ?_; simp (disch:=omega) only [go_sem, ↓reduceIte]; (repeat' (first | ((first | refine VO_cond (fun h => ?_) (fun h => ?_) | refine VOd_cond (fun h => ?_) (fun h => ?_) | refine VOg_cond (fun h => ?_) (fun h => ?_) | refine VOh_cond (fun h => ?_) (fun h => ?_) | refine VOi_cond (fun h => ?_) (fun h => ?_) | refine And.intro (fun h => ?_) (fun h => ?_)) <;> (try simp only [Bool.not_eq_true', Bool.not_eq_false', decide_eq_true_eq, decide_eq_false_iff_not] at h) <;> simp (disch:=omega) only [go_sem, h]) | (refine VCx.call (fo _) rfl ?_; simp (disch:=omega) only [go_sem, ↓reduceIte]) | (refine VCx.call (ho _) rfl ?_; simp (disch:=omega) only [go_sem]) | (refine VCx.call (bo _) rfl ?_; simp (disch:=omega) only [go_sem]) | (refine VCx.call (lo _) rfl ?_; simp (disch:=omega) only [go_sem]) | (refine VCy.call (fo _) rfl ?_; simp (disch:=omega) only [go_sem, ↓reduceIte, reduceCtorEq, pappend, plen]) | (refine VCy.call (ho _) rfl ?_; simp (disch:=omega) only [go_sem, ↓reduceIte, reduceCtorEq, pappend, plen]) | (refine VCy.call (bo _) rfl ?_; simp (disch:=omega) only [go_sem, ↓reduceIte, reduceCtorEq, pappend, plen]) | (refine VCy.call (lo _) rfl ?_; simp (disch:=omega) only [go_sem, ↓reduceIte, reduceCtorEq, pappend, plen]) | (refine VCz.call (fun _ => fo _) rfl ?_; simp (disch:=omega) only [go_sem, ↓reduceIte, reduceCtorEq, pappend, plen]) | (refine VCz.call (fun _ => ho _) rfl ?_; simp (disch:=omega) only [go_sem, ↓reduceIte, reduceCtorEq, pappend, plen]) | (refine VCz.call (fun _ => bo _) rfl ?_; simp (disch:=omega) only [go_sem, ↓reduceIte, reduceCtorEq, pappend, plen]) | (refine VCz.call (fun _ => lo _) rfl ?_; simp (disch:=omega) only [go_sem, ↓reduceIte, reduceCtorEq, pappend, plen]) | (refine VCk.call (fun _ _ => fo _) rfl ?_; simp (disch:=omega) only [go_sem, ↓reduceIte, reduceCtorEq, pappend, plen]) | (refine VCk.call (fun _ _ => ho _) rfl ?_; simp (disch:=omega) only [go_sem, ↓reduceIte, reduceCtorEq, pappend, plen]) | (refine VCk.call (fun _ _ => bo _) rfl ?_; simp (disch:=omega) only [go_sem, ↓reduceIte, reduceCtorEq, pappend, plen]) | (refine VCk.call (fun _ _ => lo _) rfl ?_; simp (disch:=omega) only [go_sem, ↓reduceIte, reduceCtorEq, pappend, plen]) | (refine VCj.now (fo _) rfl ?_; simp (disch:=omega) only [go_sem, ↓reduceIte, reduceCtorEq, pappend, plen]) | (refine VCj.now (ho _) rfl ?_; simp (disch:=omega) only [go_sem, ↓reduceIte, reduceCtorEq, pappend, plen]) | (refine VCj.now (bo _) rfl ?_; simp (disch:=omega) only [go_sem, ↓reduceIte, reduceCtorEq, pappend, plen]) | (refine VCj.now (lo _) rfl ?_; simp (disch:=omega) only [go_sem, ↓reduceIte, reduceCtorEq, pappend, plen])))
    all_goals (refine hK _ _ ?_; (refine PW.ret ⟨_, rfl, ?_⟩; first | refine .inl ⟨?_, rfl⟩ | refine Fin.base (.id' ?_ (.bool _)) | refine Fin.base (.id' ?_ (.int _ _))); clear hK fo bo ho lo hall htk; subst hr; (simp_all [slot] <;> first | rfl | omega | (rw [Bool.eq_iff_iff]; simp; done) | (rw [Bool.eq_iff_iff]; simp; omega)))
  have hk2 : ¬k = 2 := of_decide_eq_false h
  rw [if_neg hk2] at hr
  refine PW.skip ?_
  (repeat refine PW.seq ?_); refine PW.rg rfl fun K hK => ?_; simp (disch:=omega) only [go_sem]; refine hK _ _ ?_; clear hK K
  (refine PW.ret ⟨_, rfl, ?_⟩; first | refine .inl ⟨?_, rfl⟩ | refine Fin.base (.id' ?_ (.bool _)) | refine Fin.base (.id' ?_ (.int _ _)))
  rw [hr]; rfl
end Go.Proofs.YthmladiijdlgkaaGreat.Sc
