/-
  Parts of the proof, put together in one text. No condition.
-/
import Derived.Test.YtahomnplappbpaaGreatDoorV07
import Derived.Test.YtahomnplappbpaaGreatDoorV27
import Derived.Test.YtahomnplappbpaaGreatDoorV28
import Derived.Test.YtahomnplappbpaaGreatDoorV09
import Derived.Test.YtahomnplappbpaaGreatDoorRows
import Derived.LaidMore
import Derived.OpenShut
import Derived.MakeChecks
import Derived.LaidHandle
import Derived.FnData
namespace Go.Proofs.YtahomnplappbpaaGreatDoor.Pm
set_option linter.all false
set_option linter.unusedVariables false
set_option linter.unusedSimpArgs false
open Go.RowKit

variable {P : Program} {H : Heap}
/-- Whatever is described by x is described by y. -/
def Wk (x y : PV) : Prop := ∀ (C : Ctx) (u : Value), VRel C x u → VRel C y u
theorem Wk.refl (x : PV) : Wk x x := fun _ _ h => h
theorem Wk.slF (xs : List PV) (n : Nat) (f : Bool) : Wk (.slice xs n f) (.slice xs n false) := fun C u h => by
  cases h with
  | slice hl hM hc hR hcap hmax hf => exact .slice hl hM hc hR hcap hmax (fun e => by cases e)
  | sliceN ad full => exact .sliceN ad false
def Wks (xs ys : List PV) : Prop := xs.length = ys.length ∧ ∀ (j : Nat) (x y : PV), xs[j]? = some x → ys[j]? = some y → Wk x y
theorem Wks.nil : Wks [] [] := ⟨rfl, fun j x y h => by simp at h⟩
theorem Wks.cons {x y : PV} {xs ys : List PV} (h : Wk x y) (hs : Wks xs ys) : Wks (x :: xs) (y :: ys) := ⟨by simp [hs.1], fun j a b ha hb => by
  cases j with
  | zero =>
    simp only [List.getElem?_cons_zero, Option.some.injEq] at ha hb
    subst ha hb; exact h
  | succ j =>
    simp only [List.getElem?_cons_succ] at ha hb
    exact hs.2 j a b ha hb⟩
theorem Wks.refl : ∀ xs : List PV, Wks xs xs
  | [] => .nil
  | x :: r => .cons (.refl x) (Wks.refl r)
theorem Wks.append {xs ys xs' ys' : List PV} (h : Wks xs ys) (h' : Wks xs' ys') : Wks (xs ++ xs') (ys ++ ys') := by
  refine ⟨by simp [h.1, h'.1], fun j a b ha hb => ?_⟩
  by_cases hj : j < xs.length
  · rw [List.getElem?_append_left hj] at ha
    rw [List.getElem?_append_left (by rw [← h.1]; exact hj)] at hb
    exact h.2 j a b ha hb
  · rw [List.getElem?_append_right (by omega)] at ha
    rw [List.getElem?_append_right (by rw [← h.1]; omega), ← h.1] at hb
    exact h'.2 _ a b ha hb
theorem Wk.agg {xs ys : List PV} (h : Wks xs ys) (hc : ys.all PV.cell = true) : Wk (.agg xs) (.agg ys) := fun C u hu => by
  cases hu with
  | agg hl _ hR =>
    refine .agg (hl.trans h.1) (fun x hx => List.all_eq_true.1 hc x hx) fun j y u hy hu => ?_
    have hj : j < xs.length := by have := (List.getElem?_eq_some_iff.1 hy).1; have := h.1; omega
    exact h.2 j _ y (List.getElem?_eq_getElem hj) hy C u (hR j _ u (List.getElem?_eq_getElem hj) hu)
theorem CallOk.wk {f : FuncId} {args args' : List PV} {v : PV} {H' : Heap} (h : CallOk P f args' H v H') (hz : Wks args args') : CallOk P f args H v H' :=
  ⟨h.1, fun C us w hw hu => h.2 C us w hw ⟨hu.1.trans hz.1, fun j y u hy hu' => by
    have hj : j < args.length := by have := (List.getElem?_eq_some_iff.1 hy).1; have := hz.1; omega
    exact hz.2 j _ y (List.getElem?_eq_getElem hj) hy C u (hu.2 j _ u (List.getElem?_eq_getElem hj) hu')⟩⟩

end Go.Proofs.YtahomnplappbpaaGreatDoor.Pm

namespace Go.Proofs.YtahomnplappbpaaGreatDoor.Sc
set_option linter.all false
set_option linter.unusedVariables false
set_option linter.unusedSimpArgs false
open Pm Ty Go.RowKit

def zz5 : List PV := [.int .i64 0, .int .i64 0, .slice [] 0 true, .slice [] 0 true, .slice [] 0 true]
def zz10 : List PV := [.int .i64 0, .int .i64 0, .slice [] 0 true, .slice [] 0 true, .slice [] 0 true, .int .i64 0, .int .i64 0, .slice [] 0 true, .slice [] 0 true, .slice [] 0 true]
def zz15 : List PV := [.int .i64 0, .int .i64 0, .slice [] 0 true, .slice [] 0 true, .slice [] 0 true, .int .i64 0, .int .i64 0, .slice [] 0 true, .slice [] 0 true, .slice [] 0 true, .int .i64 0, .int .i64 0, .slice [] 0 true, .slice [] 0 true, .slice [] 0 true]
def zc8 : List PV := [.int .i64 0, .int .i64 0, .int .i64 0, .bool false, .bool false, .bool false, .slice [] 0 true, .slice [] 0 true]
theorem awake11D (H : Heap) : CallOk Tryz.prog 23 [] H (.bool true) H := CallOk.evalT 100000 (by kernel_rfl)
theorem zz5_wk : Wks zz5 (fmc f0) := .cons (.refl _) (.cons (.refl _) (.cons (.slF _ _ _) (.cons (.slF _ _ _) (.cons (.slF _ _ _) .nil))))
theorem zz10_wk : Wks zz10 (fmc f0 ++ fmc f0) := zz5_wk.append zz5_wk
theorem zz15_wk : Wks zz15 (fmc f0 ++ (fmc f0 ++ fmc f0)) := zz5_wk.append zz10_wk
theorem decode_Z (s : Sq) (p : Pi) (pa : Fm) (b : Bool) (hs : SqOk s) (H : Heap) : CallOk Tryz.prog 24 [.agg (sqc s), .agg (cd0 p), .agg (fmc pa ++ zz10), .bool b] H (dc0 s p pa f0 f0 b) H :=
  (decode_0 s p pa f0 f0 b hs H).wk (.cons (.refl _) (.cons (.refl _) (.cons (.agg ((Wks.refl _).append zz10_wk) rfl) (.cons (.refl _) .nil))))
theorem decode_E (s : Sq) (p : Pi) (b : Bool) (hs : SqOk s) (H : Heap) : CallOk Tryz.prog 24 [.agg (sqc s), .agg (cd0 p), .agg zz15, .bool b] H (dc0 s p f0 f0 f0 b) H :=
  (decode_0 s p f0 f0 f0 b hs H).wk (.cons (.refl _) (.cons (.refl _) (.cons (.agg zz15_wk rfl) (.cons (.refl _) .nil))))
def lightD (pa : Fm) : Bool := decide ((pa.y.length : Int) ≤ 5000) && decide ((if (pa.v.length : Int) > (pa.u.length : Int) then (pa.v.length : Int) else (pa.u.length : Int)) ≤ 2000)
set_option maxHeartbeats 1600000 in
theorem light_D (pa : Fm) (H : Heap) : CallOk Tryz.prog 20 [.agg zc8, .agg (fmc pa ++ zz10)] H (.bool (lightD pa)) H := by
  obtain ⟨w1, h1, y1, u1, v1⟩ := pa
  simp only [fmc, zc8, zz10, List.cons_append, List.nil_append]
  refine CallOk.body (F0 := [(0, .agg [.int .i64 0, .int .i64 0, .int .i64 0, .bool false, .bool false, .bool false, .slice [] 0 true, .slice [] 0 true]), (1, .agg [.int .i64 w1, .int .i64 h1, .slice (bs y1) y1.length false, .slice (bs u1) u1.length false, .slice (bs v1) v1.length false, .int .i64 0, .int .i64 0, .slice [] 0 true, .slice [] 0 true, .slice [] 0 true, .int .i64 0, .int .i64 0, .slice [] 0 true, .slice [] 0 true, .slice [] 0 true])]) Tryz.func20 rfl Tryz.ntmps20 Tryz.results20 rfl (by kernel_rfl) rfl ?_
  (repeat refine PW.seq ?_); refine PW.rg rfl fun K hK => ?_; simp (maxSteps := 3000000) (disch := omega) only [go_sem, ↓reduceIte, reduceCtorEq, pappend, plen]; refine hK _ _ ?_; clear hK K
  (repeat refine PW.seq ?_); refine PW.rg rfl fun K hK => ?_; simp (maxSteps := 3000000) (disch := omega) only [go_sem, ↓reduceIte, reduceCtorEq, pappend, plen]; refine hK _ _ ?_; clear hK K
  (repeat refine PW.seq ?_); refine PW.cond (t := _) rfl (fun h => ?_) (fun h => ?_)
  · cases h
  refine PW.skip ?_
  (repeat refine PW.seq ?_); refine PW.rg rfl fun K hK => ?_; simp (maxSteps := 3000000) (disch := omega) only [go_sem, ↓reduceIte, reduceCtorEq, pappend, plen]; refine hK _ _ ?_; clear hK K
  (repeat refine PW.seq ?_); refine PW.block (PW.loop ?_)
  refine PL.round ?_; (repeat refine PW.seq ?_); refine PW.rg rfl fun K hK => ?_; simp (maxSteps := 3000000) (disch := omega) only [go_sem, ↓reduceIte, reduceCtorEq, pappend, plen]; refine hK _ _ ?_; clear hK K; (repeat refine PW.seq ?_); refine PW.cond (t := _) rfl (fun h => ?_) (fun h => ?_)
  · cases h
  refine PW.exit ?_
  (repeat refine PW.seq ?_); refine PW.rg rfl fun K hK => ?_; simp (maxSteps := 3000000) (disch := omega) only [go_sem, ↓reduceIte, reduceCtorEq, pappend, plen]; refine hK _ _ ?_; clear hK K
  (repeat refine PW.seq ?_); refine PW.rg rfl fun K hK => ?_; simp (maxSteps := 2000000) (disch := omega) only [go_sem, ↓reduceIte, reduceCtorEq, pappend, plen]; refine hK _ _ ?_; clear hK K
  (repeat refine PW.seq ?_)
  refine PW.at [6, 7] (F1 := [(6, .int .i64 (y1.length : Int)), (7, .int .i64 (if (v1.length : Int) > (u1.length : Int) then (v1.length : Int) else (u1.length : Int)))]) ?_ rfl rfl
  unfold lightD
  simp only
  generalize (if (v1.length : Int) > (u1.length : Int) then (v1.length : Int) else (u1.length : Int)) = m6
  (repeat refine PW.seq ?_); refine PW.rg rfl fun K hK => ?_; simp (maxSteps := 3000000) (disch := omega) only [go_sem, ↓reduceIte, reduceCtorEq, pappend, plen]; (repeat' ((first | refine VO_cond ?_ ?_ | refine VOd_cond ?_ ?_ | refine VOg_cond ?_ ?_ | refine VOh_cond ?_ ?_ | refine VOi_cond ?_ ?_ | refine And.intro ?_ ?_) <;> intro h <;> (try simp only [Bool.not_eq_true', Bool.not_eq_false', decide_eq_true_eq, decide_eq_false_iff_not] at h) <;> simp (maxSteps := 3000000) (disch := omega) only [go_sem, ↓reduceIte, reduceCtorEq, pappend, plen, h]))
  all_goals (refine hK _ _ ?_; clear hK; (refine PW.ret ⟨_, rfl, ?_⟩; first | refine .inl ⟨?_, rfl⟩ | refine Fin.base (.id' ?_ (.bool _)) | refine Fin.base (.id' ?_ (.int _ _))); (simp_all [slot, Nat.beq] <;> first | rfl | omega | (rw [Bool.eq_iff_iff]; simp; done) | (rw [Bool.eq_iff_iff]; simp; omega)))
def szdB (f : Fm) (w h : Int) : Bool := fmd f && (decide (f.w = w) && decide (f.h = h))
theorem sized_ref (f : Fm) (w h : Int) (H : Heap) : CallOk Tryz.prog 22 [.agg (fmc f), .int .i64 w, .int .i64 h] H (.bool (szdB f w h)) H := by
  have fo := fun K => formed_ref f K
  unfold szdB
  generalize fmd f = b at fo ⊢
  obtain ⟨fw, fh, y, u, v⟩ := f
  simp only [fmc] at fo ⊢
  refine CallOk.body (F0 := [(0, .agg [.int .i64 fw, .int .i64 fh, .slice (bs y) y.length false, .slice (bs u) u.length false, .slice (bs v) v.length false]), (1, .int .i64 w), (2, .int .i64 h)]) Tryz.func22 rfl Tryz.ntmps22 Tryz.results22 rfl (by kernel_rfl) rfl ?_
  (repeat refine PW.seq ?_); refine PW.rg rfl fun K hK => ?_; simp (maxSteps := 3000000) (disch := omega) only [go_sem, ↓reduceIte, reduceCtorEq, pappend, plen]; refine hK _ _ ?_; clear hK K
  (repeat refine PW.seq ?_); refine PW.rg rfl fun K hK => ?_; simp (maxSteps := 3000000) (disch := omega) only [go_sem, ↓reduceIte, reduceCtorEq, pappend, plen]; (repeat' (first | ((first | refine VO_cond ?_ ?_ | refine VOd_cond ?_ ?_ | refine VOg_cond ?_ ?_ | refine VOh_cond ?_ ?_ | refine VOi_cond ?_ ?_ | refine And.intro ?_ ?_) <;> intro h <;> (try simp only [Bool.not_eq_true', Bool.not_eq_false', decide_eq_true_eq, decide_eq_false_iff_not] at h) <;> simp (maxSteps := 3000000) (disch := omega) only [go_sem, ↓reduceIte, reduceCtorEq, pappend, plen, h]) | ((first | refine VCx.call (fo _) rfl ?_ | refine VCy.call (fo _) rfl ?_ | refine VCz.call (fun _ => fo _) rfl ?_ | refine VCk.call (fun _ _ => fo _) rfl ?_ | refine VCj.now (fo _) rfl ?_); simp (maxSteps := 3000000) (disch := omega) only [go_sem, ↓reduceIte, reduceCtorEq, pappend, plen])))
  all_goals (refine hK _ _ ?_; clear hK; (refine PW.ret ⟨_, rfl, ?_⟩; first | refine .inl ⟨?_, rfl⟩ | refine Fin.base (.id' ?_ (.bool _)) | refine Fin.base (.id' ?_ (.int _ _))); (simp_all [slot, Nat.beq] <;> first | rfl | omega | (rw [Bool.eq_iff_iff]; simp; done) | (rw [Bool.eq_iff_iff]; simp; omega)))
def setTy (p : Pi) (t : Int) : Pi := ⟨t, p.st, p.od, p.tf, p.rp, p.al⟩
theorem pv_ty {s : Sq} {p : Pi} (h : pvalid s p = true) {t : Int} (ht : 1 ≤ t ∧ t ≤ 3) : pvalid s (setTy p t) = true := by
  have hc : codd (setTy p t) = true := by
    unfold pvalid at h
    rw [Bool.and_eq_true, Bool.and_eq_true] at h
    have := h.1.2
    unfold codd at this ⊢
    simp only [Bool.and_eq_true, decide_eq_true_eq] at this ⊢
    obtain ⟨⟨⟨⟨⟨b, c⟩, d⟩, e⟩, f⟩, g⟩ := this
    exact ⟨⟨⟨⟨⟨b, c⟩, ht.1⟩, ht.2⟩, f⟩, g⟩
  unfold pvalid at h ⊢
  rw [Bool.and_eq_true, Bool.and_eq_true] at h
  rw [h.1.1, hc, Bool.true_and, Bool.true_and]
  exact h.2
theorem eqD_ref (f : Fm) (H : Heap) : CallOk Tryz.prog 17 [.agg (fmc f), .agg (fmc f)] H (.bool true) H := equal_ref f H
theorem mOr_0 (w h : Int) : mOr f0 w h = true := rfl

set_option maxHeartbeats 3200000 in
set_option maxRecDepth 100000 in
theorem law_conceals (s : Sq) (p : Pi) (pa : Fm) (hs : SqOk s) (H : Heap) : CallOk Tryz.prog 8 [.agg (sqc s), .agg (pic p), .agg (fmc pa)] H (.bool true) H := by
  have h1 := sqk_cell s
  have h2 := sqk_len s hs
  have h3 := sqc_tk s hs
  have h4 := sqc_w s
  have h5 : (sqc s)[1]? = some (.int .i64 s.h) := rfl
  have p6 : ∀ q, (pic q).length = 6 := fun _ => rfl
  have p7 : ∀ q, (pic q).all PV.cell = true := fun _ => rfl
  have t6 : ∀ q, List.take 6 (pic q) = pic q := fun _ => rfl
  have st : ∀ q : Pi, (pic q)[1]? = some (.int .i64 q.st) := fun _ => rfl
  have s2 : (pic p).set 0 (.int .i64 2) = pic (setTy p 2) := rfl
  have s1 : (pic (setTy p 2)).set 0 (.int .i64 1) = pic (setTy p 1) := rfl
  have F5 : ∀ g : Fm, (fmc g).all PV.cell = true := fun _ => rfl
  have F7 : ∀ g : Fm, (fmc g).length = 5 := fun _ => rfl
  have F8 : ∀ g : Fm, List.take 5 (fmc g) = fmc g := fun _ => rfl
  have F9 : ∀ g : Fm, List.drop 5 (fmc g) = [] := fun _ => rfl
  have z9 : List.drop 5 [PV.int .i64 0, PV.int .i64 0, PV.slice [] 0 true, PV.slice [] 0 true, PV.slice [] 0 true] = [] := rfl
  have li := fun L => light_D pa L
  have pv := fun L => pvalid_ref s p L hs
  have sz := fun L => sized_ref pa s.w s.h L
  generalize lightD pa = b1 at li
  generalize hb2 : pvalid s p = b2 at pv
  generalize hb3 : szdB pa s.w s.h = b3 at sz
  unfold zc8 zz10 at li
  refine CallOk.body (F0 := [(0, .agg (sqc s)), (1, .agg (pic p)), (2, .agg (fmc pa))]) Tryz.func8 rfl Tryz.ntmps8 Tryz.results8 rfl (by kernel_rfl) rfl ?_
  (repeat refine PW.seq ?_); refine PW.rg rfl fun K hK => ?_; simp (maxSteps := 3000000) (disch := omega) only [go_sem, ↓reduceIte, reduceCtorEq, pappend, plen, h1, p7, F5]; refine hK _ _ ?_; clear hK K
  (repeat refine PW.seq ?_)
  refine PW.rgv (P := Tryz.prog) [3, 4, 5] 31 (.bool (!(b1 && (b2 && b3)))) ?_ ?_ ?_
  · rfl
  · simp (maxSteps := 3000000) (disch := omega) only [go_sem, ↓reduceIte, reduceCtorEq, pappend, plen, h2, h3, h4, h5, p6, p7, t6, F5, F7, F8]
    (repeat' (first | ((first | refine VO_cond ?_ ?_ | refine VOd_cond ?_ ?_ | refine VOg_cond ?_ ?_ | refine VOh_cond ?_ ?_ | refine VOi_cond ?_ ?_ | refine And.intro ?_ ?_) <;> intro h <;> (try simp only [Bool.not_eq_true', Bool.not_eq_false', decide_eq_true_eq, decide_eq_false_iff_not] at h) <;> simp (maxSteps := 3000000) (disch := omega) only [go_sem, ↓reduceIte, reduceCtorEq, pappend, plen, h2, h3, h4, h5, p6, p7, t6, F5, F7, F8, h]) | ((first | refine VCx.call (li _) rfl ?_ | refine VCx.call (pv _) rfl ?_ | refine VCx.call (sz _) rfl ?_ | refine VCy.call (li _) rfl ?_ | refine VCy.call (pv _) rfl ?_ | refine VCy.call (sz _) rfl ?_ | refine VCz.call (fun _ => li _) rfl ?_ | refine VCz.call (fun _ => pv _) rfl ?_ | refine VCz.call (fun _ => sz _) rfl ?_ | refine VCk.call (fun _ _ => li _) rfl ?_ | refine VCk.call (fun _ _ => pv _) rfl ?_ | refine VCk.call (fun _ _ => sz _) rfl ?_ | refine VCj.now (li _) rfl ?_ | refine VCj.now (pv _) rfl ?_ | refine VCj.now (sz _) rfl ?_); simp (maxSteps := 3000000) (disch := omega) only [go_sem, ↓reduceIte, reduceCtorEq, pappend, plen, h2, h3, h4, h5, p6, p7, t6, F5, F7, F8])))
    all_goals (clear li pv sz h1 h2 h3 h4 h5 p6 p7 t6 st s2 s1 F5 F7 F8 F9 z9 hb2 hb3; (simp_all [slot, Nat.beq] <;> first | rfl | omega | (rw [Bool.eq_iff_iff]; simp; done) | (rw [Bool.eq_iff_iff]; simp; omega)))
  (repeat refine PW.seq ?_); refine PW.cond (t := _) rfl (fun h => ?_) (fun h => ?_)
  · (repeat refine PW.seq ?_); refine PW.rg rfl fun K hK => ?_; simp (maxSteps := 3000000) (disch := omega) only [go_sem, ↓reduceIte, reduceCtorEq, pappend, plen]; refine VCx.call (awake11D _) rfl ?_; simp (maxSteps := 3000000) (disch := omega) only [go_sem, ↓reduceIte, reduceCtorEq, pappend, plen]; refine hK _ _ ?_; clear hK K
    (refine PW.ret ⟨_, rfl, ?_⟩; first | refine .inl ⟨?_, rfl⟩ | refine Fin.base (.id' ?_ (.bool _)) | refine Fin.base (.id' ?_ (.int _ _)))
    rfl
  have hb : b1 = true ∧ b2 = true ∧ b3 = true := by cases b1 <;> cases b2 <;> cases b3 <;> simp_all
  obtain ⟨rfl, rfl, rfl⟩ := hb
  clear li pv sz h
  refine PW.skip ?_
  have hv2 := pv_ty hb2 (t := 2) (by omega)
  have hv1 := pv_ty hb2 (t := 1) (by omega)
  unfold szdB at hb3
  simp only [Bool.and_eq_true, decide_eq_true_eq] at hb3
  obtain ⟨hfm, hw, hh⟩ := hb3
  obtain ⟨hfv, h32⟩ := fvd_of hb2 hfm hw hh
  obtain ⟨A, B, a1, bb, ew, eh, er, e3, e4, est, _⟩ := pv_sz hb2
  obtain ⟨A2, B2, _, _, ew2, eh2, er2, _⟩ := pv_sz hv2
  obtain ⟨A1, B1, _, _, ew1, eh1, er1, _⟩ := pv_sz hv1
  have hB2 : B2 = B := by have : hgt s (setTy p 2) = hgt s p := rfl; omega
  have hB1 : B1 = B := by have : hgt s (setTy p 1) = hgt s p := rfl; omega
  have hz : pa.w ≠ 0 := by omega
  have hd2 : decE s (setTy p 2) pa f0 f0 false = 0 := by
    unfold decE fitB
    rw [hv2, mOr_0, mOr_0]
    have : mOr pa s.w s.h = true := by unfold mOr; simp [hfm, hw, hh]
    rw [this]
    simp [setTy, hz]
  have hd1 : decE s (setTy p 1) f0 f0 f0 false = 0 := by
    unfold decE fitB
    simp only [hv1, mOr_0]
    simp [setTy]
  have de2 := fun L => decode_Z s (setTy p 2) pa false hs L
  have de1 := fun L => decode_E s (setTy p 1) false hs L
  have hc1 : conF s (setTy p 1) f0 = flt A B := by
    unfold conF
    rw [if_pos (show f0.w = 0 from rfl), show hgt s (setTy p 1) = hgt s p from rfl, ew, eh]
    congr 1 <;> omega
  have hc2 : conF s (setTy p 2) pa = if p.st = 3 then pa else fieldOf pa (p.st - 1) := if_neg hz
  unfold dc0 at de1 de2
  rw [hd2, if_pos rfl, er2, hB2] at de2
  rw [hd1, if_pos rfl, er1, hB1, hc1] at de1
  rw [Int.toNat_natCast] at de1 de2
  obtain ⟨want, hwant⟩ : ∃ g, conF s (setTy p 2) pa = g := ⟨_, rfl⟩
  rw [hwant] at de2 hc2
  unfold cd0 zz10 at de2
  unfold cd0 zz15 at de1
  have rl : ∀ n, (List.replicate n (PV.bool false)).length = n := fun n => by simp
  (repeat refine PW.seq ?_); refine PW.rg rfl fun K hK => ?_; simp (maxSteps := 3000000) (disch := omega) only [go_sem, ↓reduceIte, reduceCtorEq, pappend, plen, p6, s2]; refine hK _ _ ?_; clear hK K
  (repeat refine PW.seq ?_); refine PW.rg rfl fun K hK => ?_; simp (maxSteps := 3000000) (disch := omega) only [go_sem, ↓reduceIte, reduceCtorEq, pappend, plen, h2, h3, p6, p7, t6, F5, F7, F8]; refine VCx.call (de2 _) rfl ?_; simp (maxSteps := 3000000) (disch := omega) only [go_sem, ↓reduceIte, reduceCtorEq, pappend, plen, h2, h3, p6, p7, t6, F5, F7, F8]; refine hK _ _ ?_; clear hK K
  refine PW.view (Vs.place 53) ?_
  (repeat refine PW.seq ?_); refine PW.drawi [H.length + 4] [(10, [0])] [(10, 0)] [] mix (by kernel_rfl) (by simp <;> omega) fun K hK => ?_
  simp (maxSteps := 3000000) (disch := omega) only [go_sem, ↓reduceIte, reduceCtorEq, pappend, plen, arith, h2, h5, F5, F7, F8]
  refine hK _ _ ?_; clear hK K
  have eqw := fun L => eqD_ref want L
  have hgw : p.st = 3 → s.h = ((16 * B : Nat) : Int) := e3
  suffices hrest : PW Tryz.prog _ _ [(3, .ptr H.length 0 0), (4, .ptr (H.length + 1) 0 0), (7, .ptr (H.length + 3) 0 0), (8, .slice (List.replicate B (.bool false)) B false), (9, .int .i64 0), (10, .ptr (H.length + 4) 1 0), (11, .int .i64 ((16 * B : Nat) : Int))] (H ++ [⟨38, 0, sqc s⟩, ⟨70, 0, pic (setTy p 2)⟩, ⟨53, 0, fmc pa⟩, ⟨53, 0, fmc want⟩, ⟨53, 1, fmc want⟩]) _ by
    (repeat refine PW.seq ?_); refine PW.rg rfl fun K hK => ?_; simp (maxSteps := 3000000) (disch := omega) only [go_sem, ↓reduceIte, reduceCtorEq, pappend, plen, p6, st]; refine hK _ _ ?_; clear hK K
    (repeat refine PW.seq ?_); refine PW.cond (t := _) rfl (fun h => ?_) (fun h => ?_)
    · have h3' : p.st ≠ 3 := by simpa [setTy] using h
      rw [if_neg h3'] at hc2
      have h32' := h32 h3'
      have he4 := (e4 h3').1
      have fr := fun L => fieldR pa (p.st - 1) hfv h32' (by omega) L
      rw [← hc2] at fr
      have d2 : s.h.tdiv 2 = ((16 * B : Nat) : Int) := by rw [tdiv_pos _ _ (by omega)]; omega
      have sty : (setTy p 2).st = p.st := rfl
      (repeat refine PW.seq ?_); refine PW.rg rfl fun K hK => ?_; simp (maxSteps := 3000000) (disch := omega) only [go_sem, ↓reduceIte, reduceCtorEq, pappend, plen, p6, st, sty, F5, F7, F8, F9]; refine VCx.call (fr _) rfl ?_; simp (maxSteps := 3000000) (disch := omega) only [go_sem, ↓reduceIte, reduceCtorEq, pappend, plen, p6, st, sty, F5, F7, F8, F9]; refine hK _ _ ?_; clear hK K
      (repeat refine PW.seq ?_); refine PW.rg rfl fun K hK => ?_; simp (maxSteps := 3000000) (disch := omega) only [go_sem, ↓reduceIte, reduceCtorEq, pappend, plen, h2, h5, d2]; refine hK _ _ ?_; clear hK K
      exact PW.at [3, 4, 7, 8, 9, 10, 11] hrest rfl rfl
    · have h3' : p.st = 3 := by simpa [setTy] using h
      rw [if_pos h3'] at hc2
      have he3 := e3 h3'
      refine PW.skip ?_
      exact PW.at [3, 4, 7, 8, 9, 10, 11] hrest (by rw [he3]; rfl) (by rw [hc2])
  have d16 : ((16 * B : Nat) : Int).tdiv 16 = (B : Int) := by rw [tdiv_pos _ _ (by omega)]; omega
  (repeat refine PW.seq ?_)
  refine PW.rgv (P := Tryz.prog) [3, 4, 7, 11] 75 (.bool false) ?_ ?_ ?_
  · rfl
  · simp (maxSteps := 3000000) (disch := omega) only [go_sem, ↓reduceIte, reduceCtorEq, pappend, plen, F7, F8]
    (repeat' (first | ((first | refine VO_cond ?_ ?_ | refine VOd_cond ?_ ?_ | refine VOg_cond ?_ ?_ | refine VOh_cond ?_ ?_ | refine VOi_cond ?_ ?_ | refine And.intro ?_ ?_) <;> intro h <;> (try simp only [Bool.not_eq_true', Bool.not_eq_false', decide_eq_true_eq, decide_eq_false_iff_not] at h) <;> simp (maxSteps := 3000000) (disch := omega) only [go_sem, ↓reduceIte, reduceCtorEq, pappend, plen, F7, F8, d16, rl, h]) | ((first | refine VCx.call (eqw _) rfl ?_ | refine VCy.call (eqw _) rfl ?_ | refine VCz.call (fun _ => eqw _) rfl ?_ | refine VCk.call (fun _ _ => eqw _) rfl ?_ | refine VCj.now (eqw _) rfl ?_); simp (maxSteps := 3000000) (disch := omega) only [go_sem, ↓reduceIte, reduceCtorEq, pappend, plen, F7, F8, d16, rl])))
    all_goals (simp_all [slot, Nat.beq] <;> first | rfl | omega | (rw [Bool.eq_iff_iff]; simp; done) | (rw [Bool.eq_iff_iff]; simp; omega))
  (repeat refine PW.seq ?_); refine PW.cond (t := _) rfl (fun h => ?_) (fun h => ?_)
  · cases h
  refine PW.skip ?_
  (repeat refine PW.seq ?_); refine PW.rg rfl fun K hK => ?_; simp (maxSteps := 3000000) (disch := omega) only [go_sem, ↓reduceIte, reduceCtorEq, pappend, plen, p6, s1]; refine hK _ _ ?_; clear hK K
  have fl := fun L => flatG_ref A B a1 bb L
  have eqg := fun L => eqD_ref (flt A B) L
  rw [ew] at h4
  generalize flt A B = g at de1 fl eqg
  have r0 : (List.replicate B (PV.bool false))[0]? = some (.bool false) := by rw [List.getElem?_replicate]; simp; omega
  (repeat refine PW.seq ?_); refine PW.rg rfl fun K hK => ?_; simp (maxSteps := 3000000) (disch := omega) only [go_sem, ↓reduceIte, reduceCtorEq, pappend, plen, h2, h3, p6, p7, t6, F5, F7, F8, F9]; refine VCx.call (de1 _) rfl ?_; simp (maxSteps := 3000000) (disch := omega) only [go_sem, ↓reduceIte, reduceCtorEq, pappend, plen, h2, h3, p6, p7, t6, F5, F7, F8, F9]; refine hK _ _ ?_; clear hK K
  (repeat refine PW.seq ?_)
  refine PW.rgv (P := Tryz.prog) [3, 7, 11] 99 (.bool false) ?_ ?_ ?_
  · rfl
  · simp (maxSteps := 3000000) (disch := omega) only [go_sem, ↓reduceIte, reduceCtorEq, pappend, plen, F7, F8, d16, rl, r0]
    (repeat' ((first | refine VO_cond ?_ ?_ | refine VOd_cond ?_ ?_ | refine VOg_cond ?_ ?_ | refine VOh_cond ?_ ?_ | refine VOi_cond ?_ ?_ | refine And.intro ?_ ?_) <;> intro h <;> (try simp only [Bool.not_eq_true', Bool.not_eq_false', decide_eq_true_eq, decide_eq_false_iff_not] at h) <;> simp (maxSteps := 3000000) (disch := omega) only [go_sem, ↓reduceIte, reduceCtorEq, pappend, plen, d16, rl, r0, h]))
    all_goals (simp_all [slot, Nat.beq] <;> first | rfl | omega | (rw [Bool.eq_iff_iff]; simp; done) | (rw [Bool.eq_iff_iff]; simp; omega))
  (repeat refine PW.seq ?_); refine PW.cond (t := _) rfl (fun h => ?_) (fun h => ?_)
  · cases h
  refine PW.skip ?_
  (repeat refine PW.seq ?_); refine PW.draw mix (by kernel_rfl) fun K hK => ?_; simp (maxSteps := 3000000) (disch := omega) only [go_sem, ↓reduceIte, reduceCtorEq, pappend, plen, h2, h4, F7, F8]
  refine VCy.callP awake11D rfl ?_; simp (maxSteps := 3000000) (disch := omega) only [go_sem, ↓reduceIte, reduceCtorEq, pappend, plen, h2, h4, F7, F8]
  (repeat' (first | ((first | refine VO_cond ?_ ?_ | refine VOd_cond ?_ ?_ | refine VOg_cond ?_ ?_ | refine VOh_cond ?_ ?_ | refine VOi_cond ?_ ?_ | refine And.intro ?_ ?_) <;> intro h <;> (try simp only [Bool.not_eq_true', Bool.not_eq_false', decide_eq_true_eq, decide_eq_false_iff_not] at h) <;> simp (maxSteps := 3000000) (disch := omega) only [go_sem, ↓reduceIte, reduceCtorEq, pappend, plen, h2, h4, F7, F8, h]) | ((first | refine VCx.call (fl _) rfl ?_ | refine VCx.call (eqg _) rfl ?_ | refine VCy.call (fl _) rfl ?_ | refine VCy.call (eqg _) rfl ?_ | refine VCz.call (fun _ => fl _) rfl ?_ | refine VCz.call (fun _ => eqg _) rfl ?_ | refine VCk.call (fun _ _ => fl _) rfl ?_ | refine VCk.call (fun _ _ => eqg _) rfl ?_ | refine VCj.now (fl _) rfl ?_ | refine VCj.now (eqg _) rfl ?_); simp (maxSteps := 3000000) (disch := omega) only [go_sem, ↓reduceIte, reduceCtorEq, pappend, plen, h2, h4, F7, F8])))
  all_goals (refine hK _ _ ?_; clear hK; (refine PW.ret ⟨_, rfl, ?_⟩; first | refine .inl ⟨?_, rfl⟩ | refine Fin.base (.id' ?_ (.bool _)) | refine Fin.base (.id' ?_ (.int _ _))); (simp_all [slot, Nat.beq] <;> first | rfl | omega | (rw [Bool.eq_iff_iff]; simp; done) | (rw [Bool.eq_iff_iff]; simp; omega)))

end Go.Proofs.YtahomnplappbpaaGreatDoor.Sc

namespace Go.Proofs.YtahomnplappbpaaGreatDoor.Pm
set_option linter.all false
set_option linter.unusedVariables false
set_option linter.unusedSimpArgs false
open Go.ChangeShapes Go.WideShapes Go.ChangeAt Go.RowKit

variable {P : Program} {W : World}

theorem tab_of_trod {t e : TypeId} {n fuel : Nat} {k : IntKind} {cs : List Value} {z : List Int} {p : List MemPlace} (ht : P.underlying t = some (.array n e)) (he : P.underlying e = some (.int k)) (hc : P.cellsOf e = 1)
    (h : DataW.trod (fun _ => ()) P W 0 (fun _ => true) false fuel t cs = some (.agg (z.map fun x => .lit (.int k x)), p)) : ∀ (j : Nat) (x : Int), z[j]? = some x → cs[j]? = some (.int k x) := by
  obtain ⟨xs, m, rfl, hx, hlen, hn, hel⟩ := DataW.trod_array ht h
  intro j x hj
  simp only [Prod.mk.injEq, DataW.agg.injEq] at hx
  have hx1 := congrArg (fun l => l[j]?) hx.1
  simp only [List.getElem?_map, hj, Option.map_some] at hx1
  cases hy : xs[j]? with
  | none => rw [hy] at hx1; cases hx1
  | some y =>
    rw [hy] at hx1
    simp only [Option.map_some, Option.some.injEq] at hx1
    have hjn : j < n := by rw [← hn]; exact (List.getElem?_eq_some_iff.1 hy).1
    have hd := hel j hjn
    rw [hy, hc, Nat.mul_one] at hd
    obtain ⟨r, e1, e2, _⟩ := DataW.trod_int he hd
    rw [e2] at hx1
    simp only [DataW.lit.injEq, Lit.int.injEq, true_and] at hx1
    subst hx1
    have := congrArg (fun l => l[0]?) e1
    simpa using this
theorem laidVars_mem : ∀ {l : List (String × DataW Unit)} {ps : List MemPlace}, DataW.LaidVars P W l ps → ∀ x ∈ l, ∃ g t cs fuel p, P.globalNamed x.1 = some g ∧ (P.globals[g]?).map (·.type) = some t ∧ W.var? P x.1 = some cs ∧ DataW.trod (fun _ => ()) P W 0 (fun _ => true) false fuel t cs.toList = some (x.2, p)
  | [], _, _, x, hx => by cases hx
  | (n, d) :: r, ps, h, x, hx => by
    obtain ⟨g, t, cs, fuel, p, q, h1, h2, h3, h4, h5, _⟩ := h
    rcases List.mem_cons.1 hx with rfl | hx
    · exact ⟨g, t, cs, fuel, p, h1, h2, h3, h4⟩
    · exact laidVars_mem h5 x hx
theorem glob_row {l : List (String × DataW Unit)} {nm : String} {g n : Nat} {t e : TypeId} {k : IntKind} {z : List Int} (h : laidMet P l W) (hm : (nm, DataW.agg (z.map fun x => .lit (.int k x))) ∈ l) (hg : P.globalNamed nm = some g) (ht : (P.globals[g]?).map (·.type) = some t)
    (hu : P.underlying t = some (.array n e)) (he : P.underlying e = some (.int k)) (hc : P.cellsOf e = 1) : ∀ (j : Nat) (x : Int), z[j]? = some x → (Ctx.start W).M g j = some (.int k x) := fun j x hj => by
  obtain ⟨ps, hv, _⟩ := h
  obtain ⟨g', t', cs, fuel, p, h1, h2, h3, h4⟩ := laidVars_mem hv _ hm
  obtain rfl := Option.some.inj (hg.symm.trans h1)
  obtain rfl := Option.some.inj (ht.symm.trans h2)
  have h5 := tab_of_trod hu he hc h4 j x hj
  show W.cell? ⟨g, j, none⟩ = _
  rw [World.var?_cell hg h3 j, ← h5]
  simp
theorem glob_of {l : List (String × DataW Unit)} (h : laidMetH Tryz.prog l W) (hl : (l.all fun x => x.2.handleName?.isNone) = true)
    (h1 : ("cutroom/quant.alternateScan", Rows.laid_cutroom_quant_alternateScan) ∈ l)
    : Glob (Ctx.start W).M := by
  rw [MakeChecks.laidMetH_plain _ _ _ hl] at h
  intro g l hg
  unfold gtab at hg
  split at hg
  · rename_i e
    subst e
    obtain rfl := Option.some.inj hg
    intro j x hj
    unfold gAlt at hj
    rw [List.getElem?_map, Option.map_eq_some_iff] at hj
    obtain ⟨y, hy, rfl⟩ := hj
    exact glob_row (t := 47) h (k := .i64) h1 (by kernel_rfl) (by kernel_rfl) Tryz.underlying47 Tryz.underlying3 (by kernel_rfl) j y hy
  cases hg

end Go.Proofs.YtahomnplappbpaaGreatDoor.Pm
