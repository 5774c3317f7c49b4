/-
  Parts of the proof, put together in one text. No condition.
-/
import Derived.Test.YtahomnplappbpaaGreatDoorV16
import Derived.Test.YtahomnplappbpaaGreatDoorRows
import Derived.Test.YtahomnplappbpaaGreatDoorV09
namespace Go.Proofs.YtahomnplappbpaaGreatDoor.Sc
set_option linter.all false
set_option linter.unusedVariables false
set_option linter.unusedSimpArgs false
open Pm Ty Go.RowKit

def vsz (s : Sq) : Bool := mbs s.w 64 && mbs s.h 64 && (!s.il || (s.h.tmod 32 == 0))
def vrt (s : Sq) : Bool := ratOk s.num s.den && decide (1 ≤ s.num) && decide (s.num ≤ 1048576) && decide (s.den ≤ 65536)
def vbr (s : Sq) : Bool := decide (1 ≤ s.br) && decide (s.br ≤ 16777216) && decide (1 ≤ s.bf) && decide (s.bf ≤ 8388608)
def vbu (s : Sq) : Bool := decide (3 * s.den * s.br + 32 * s.num ≤ 2 * s.num * s.bf)
def vseq (s : Sq) : Bool := vsz s && (vrt s && (vbr s && (vbu s && (mxOk s.ia && mxOk s.ie))))

theorem ratOk_pos {num den : Int} (h : ratOk num den = true) : 1 ≤ den := by simp [ratOk] at h; exact h.1.1
theorem prod_bd {a b : Int} {A B : Int} (ha : 0 ≤ a) (hA : a ≤ A) (hb : 0 ≤ b) (hB : b ≤ B) : 0 ≤ a * b ∧ a * b ≤ A * B :=
  ⟨Int.mul_nonneg ha hb, Int.mul_le_mul hA hB hb (Int.le_trans ha hA)⟩

theorem vseq_ok (s : Sq) (H : Heap) (hs : SqOk s) : CallOk Tryz.prog 189 [.agg (sqc s)] H (.bool (vseq s)) H := by
  obtain ⟨hw, hh, hnum, hden, hbr, hbf, hia, hie⟩ := hs
  have hall : (bs s.ia ++ bs s.ie).all PV.cell = true := by simp [bs, PV.cell]
  refine CallOk.body (F0 := [(0, .agg (sqc s))]) Tryz.func189 rfl Tryz.ntmps189 Tryz.results189 rfl (by kernel_rfl) rfl ?_
  (repeat refine PW.seq ?_); refine PW.rg rfl fun K hK => ?_; simp (disch := omega) only [go_sem, ↓reduceIte, reduceCtorEq, pappend, plen, sqc, hall]; refine hK _ _ ?_; clear hK K
  refine PW.seq (PW.seq (PW.rgv [1] 22 (.bool (!vsz s)) rfl ?_ ?_))
  · simp (disch := omega) only [go_sem, ↓reduceIte, reduceCtorEq, pappend, plen]; (repeat' (first | ((first | refine VO_cond ?_ ?_ | refine VOd_cond ?_ ?_ | refine VOg_cond ?_ ?_ | refine VOh_cond ?_ ?_ | refine VOi_cond ?_ ?_ | refine And.intro ?_ ?_) <;> intro h <;> (try simp only [Bool.not_eq_true', Bool.not_eq_false', decide_eq_true_eq, decide_eq_false_iff_not] at h) <;> simp (disch := omega) only [go_sem, ↓reduceIte, reduceCtorEq, pappend, plen, h]) | ((first | refine VCx.call (mbs_ok _ _ _) rfl ?_ | refine VCy.call (mbs_ok _ _ _) rfl ?_ | refine VCz.call (fun _ => mbs_ok _ _ _) rfl ?_ | refine VCk.call (fun _ _ => mbs_ok _ _ _) rfl ?_ | refine VCj.now (mbs_ok _ _ _) rfl ?_); simp (disch := omega) only [go_sem, ↓reduceIte, reduceCtorEq, pappend, plen])))
    all_goals (simp_all [vsz, slot, Nat.beq] <;> first | rfl | omega | (rw [Bool.eq_iff_iff]; simp; done) | (rw [Bool.eq_iff_iff]; simp; omega))
  (repeat refine PW.seq ?_); refine PW.cond (t := _) rfl (fun h => ?_) (fun h => ?_)
  · have h1 : vsz s = false := by simpa using h
    (repeat refine PW.seq ?_); refine PW.rg rfl fun K hK => ?_; simp (disch := omega) only [go_sem, ↓reduceIte, reduceCtorEq, pappend, plen]; refine hK _ _ ?_; clear hK K
    exact PW.ret ⟨_, rfl, Fin.base (.id' (by simp [vseq, h1, slot, Nat.beq]) (.bool _))⟩
  have h1 : vsz s = true := by simpa using h
  refine PW.skip (PW.seq (PW.seq (PW.rgv [1] 44 (.bool (!vrt s)) rfl ?_ ?_)))
  · simp (disch := omega) only [go_sem, ↓reduceIte, reduceCtorEq, pappend, plen]; (repeat' (first | ((first | refine VO_cond ?_ ?_ | refine VOd_cond ?_ ?_ | refine VOg_cond ?_ ?_ | refine VOh_cond ?_ ?_ | refine VOi_cond ?_ ?_ | refine And.intro ?_ ?_) <;> intro h <;> (try simp only [Bool.not_eq_true', Bool.not_eq_false', decide_eq_true_eq, decide_eq_false_iff_not] at h) <;> simp (disch := omega) only [go_sem, ↓reduceIte, reduceCtorEq, pappend, plen, h]) | ((first | refine VCx.call (rat_ok _ _ _ hnum hden) rfl ?_ | refine VCy.call (rat_ok _ _ _ hnum hden) rfl ?_ | refine VCz.call (fun _ => rat_ok _ _ _ hnum hden) rfl ?_ | refine VCk.call (fun _ _ => rat_ok _ _ _ hnum hden) rfl ?_ | refine VCj.now (rat_ok _ _ _ hnum hden) rfl ?_); simp (disch := omega) only [go_sem, ↓reduceIte, reduceCtorEq, pappend, plen])))
    all_goals (simp_all [vrt, slot, Nat.beq] <;> first | rfl | omega | (rw [Bool.eq_iff_iff]; simp; done) | (rw [Bool.eq_iff_iff]; simp; omega))
  (repeat refine PW.seq ?_); refine PW.cond (t := _) rfl (fun h => ?_) (fun h => ?_)
  · have h2 : vrt s = false := by simpa using h
    (repeat refine PW.seq ?_); refine PW.rg rfl fun K hK => ?_; simp (disch := omega) only [go_sem, ↓reduceIte, reduceCtorEq, pappend, plen]; refine hK _ _ ?_; clear hK K
    exact PW.ret ⟨_, rfl, Fin.base (.id' (by simp [vseq, h1, h2, slot, Nat.beq]) (.bool _))⟩
  have h2 : vrt s = true := by simpa using h
  refine PW.skip (PW.seq (PW.seq (PW.rgv [1] 62 (.bool (!vbr s)) rfl ?_ ?_)))
  · simp (disch := omega) only [go_sem, ↓reduceIte, reduceCtorEq, pappend, plen]; (repeat' ((first | refine VO_cond ?_ ?_ | refine VOd_cond ?_ ?_ | refine VOg_cond ?_ ?_ | refine VOh_cond ?_ ?_ | refine VOi_cond ?_ ?_ | refine And.intro ?_ ?_) <;> intro h <;> (try simp only [Bool.not_eq_true', Bool.not_eq_false', decide_eq_true_eq, decide_eq_false_iff_not] at h) <;> simp (disch := omega) only [go_sem, ↓reduceIte, reduceCtorEq, pappend, plen, h]))
    all_goals (simp_all [vbr, slot, Nat.beq] <;> first | rfl | omega | (rw [Bool.eq_iff_iff]; simp; done) | (rw [Bool.eq_iff_iff]; simp; omega))
  (repeat refine PW.seq ?_); refine PW.cond (t := _) rfl (fun h => ?_) (fun h => ?_)
  · have h3 : vbr s = false := by simpa using h
    (repeat refine PW.seq ?_); refine PW.rg rfl fun K hK => ?_; simp (disch := omega) only [go_sem, ↓reduceIte, reduceCtorEq, pappend, plen]; refine hK _ _ ?_; clear hK K
    exact PW.ret ⟨_, rfl, Fin.base (.id' (by simp [vseq, h1, h2, h3, slot, Nat.beq]) (.bool _))⟩
  have h3 : vbr s = true := by simpa using h
  have h2' := h2
  have h3' := h3
  simp only [vrt, vbr, Bool.and_eq_true, decide_eq_true_eq] at h2' h3'
  have hdp := ratOk_pos h2'.1.1.1
  have hb1 := prod_bd (a := 2 * s.num) (b := s.bf) (A := 2097152) (B := 8388608) (by omega) (by omega) (by omega) (by omega)
  have hb2 := prod_bd (a := 3 * s.den) (b := s.br) (A := 196608) (B := 16777216) (by omega) (by omega) (by omega) (by omega)
  refine PW.skip ?_
  (repeat refine PW.seq ?_); refine PW.rg rfl fun K hK => ?_; simp (disch := omega) only [go_sem, ↓reduceIte, reduceCtorEq, pappend, plen]; refine hK _ _ ?_; clear hK K
  (repeat refine PW.seq ?_); refine PW.cond (t := _) rfl (fun h => ?_) (fun h => ?_)
  · have h4 : vbu s = false := by have := of_decide_eq_true h; simp [vbu]; omega
    (repeat refine PW.seq ?_); refine PW.rg rfl fun K hK => ?_; simp (disch := omega) only [go_sem, ↓reduceIte, reduceCtorEq, pappend, plen]; refine hK _ _ ?_; clear hK K
    exact PW.ret ⟨_, rfl, Fin.base (.id' (by simp [vseq, h1, h2, h3, h4, slot, Nat.beq]) (.bool _))⟩
  have h4 : vbu s = true := by have := of_decide_eq_false h; simp [vbu]; omega
  refine PW.skip ?_
  (repeat refine PW.seq ?_); refine PW.rg rfl fun K hK => ?_; simp (disch := omega) only [go_sem, ↓reduceIte, reduceCtorEq, pappend, plen, sq_ia, sq_ie, sq_tk, List.length_append, length_bs]; (repeat' (first | ((first | refine VO_cond ?_ ?_ | refine VOd_cond ?_ ?_ | refine VOg_cond ?_ ?_ | refine VOh_cond ?_ ?_ | refine VOi_cond ?_ ?_ | refine And.intro ?_ ?_) <;> intro h <;> (try simp only [Bool.not_eq_true', Bool.not_eq_false', decide_eq_true_eq, decide_eq_false_iff_not] at h) <;> simp (disch := omega) only [go_sem, ↓reduceIte, reduceCtorEq, pappend, plen, sq_ia, sq_ie, sq_tk, List.length_append, length_bs, h]) | ((first | refine VCx.call (mx_ok _ _ hia) rfl ?_ | refine VCx.call (mx_ok _ _ hie) rfl ?_ | refine VCy.call (mx_ok _ _ hia) rfl ?_ | refine VCy.call (mx_ok _ _ hie) rfl ?_ | refine VCz.call (fun _ => mx_ok _ _ hia) rfl ?_ | refine VCz.call (fun _ => mx_ok _ _ hie) rfl ?_ | refine VCk.call (fun _ _ => mx_ok _ _ hia) rfl ?_ | refine VCk.call (fun _ _ => mx_ok _ _ hie) rfl ?_ | refine VCj.now (mx_ok _ _ hia) rfl ?_ | refine VCj.now (mx_ok _ _ hie) rfl ?_); simp (disch := omega) only [go_sem, ↓reduceIte, reduceCtorEq, pappend, plen, sq_ia, sq_ie, sq_tk, List.length_append, length_bs])))
  all_goals (refine hK _ _ ?_; clear hK K)
  all_goals exact PW.ret ⟨_, rfl, Fin.base (.id' (by simp_all [vseq, slot, Nat.beq]) (.bool _))⟩

theorem vseq_ref (s : Sq) (H : Heap) (hs : SqOk s) : CallOk Tryz.prog 52 [.agg (sqc s)] H (.bool (vseq s)) H := by
  obtain ⟨hw, hh, hnum, hden, hbr, hbf, hia, hie⟩ := hs
  have hall : (bs s.ia ++ bs s.ie).all PV.cell = true := by simp [bs, PV.cell]
  refine CallOk.body (F0 := [(0, .agg (sqc s))]) Tryz.func52 rfl Tryz.ntmps52 Tryz.results52 rfl (by kernel_rfl) rfl ?_
  (repeat refine PW.seq ?_); refine PW.rg rfl fun K hK => ?_; simp (disch := omega) only [go_sem, ↓reduceIte, reduceCtorEq, pappend, plen, sqc, hall]; refine hK _ _ ?_; clear hK K
  refine PW.seq (PW.seq (PW.rgv [1] 42 (.bool (!vsz s)) rfl ?_ ?_))
  · simp (disch := omega) only [go_sem, ↓reduceIte, reduceCtorEq, pappend, plen]; (repeat' ((first | refine VO_cond ?_ ?_ | refine VOd_cond ?_ ?_ | refine VOg_cond ?_ ?_ | refine VOh_cond ?_ ?_ | refine VOi_cond ?_ ?_ | refine And.intro ?_ ?_) <;> intro h <;> (try simp only [Bool.not_eq_true', Bool.not_eq_false', decide_eq_true_eq, decide_eq_false_iff_not] at h) <;> simp (disch := omega) only [go_sem, ↓reduceIte, reduceCtorEq, pappend, plen, h]))
    all_goals (simp_all [vsz, mbs, slot, Nat.beq] <;> first | rfl | omega | (rw [Bool.eq_iff_iff]; simp; done) | (rw [Bool.eq_iff_iff]; simp; omega))
  (repeat refine PW.seq ?_); refine PW.cond (t := _) rfl (fun h => ?_) (fun h => ?_)
  · have h1 : vsz s = false := by simpa using h
    (repeat refine PW.seq ?_); refine PW.rg rfl fun K hK => ?_; simp (disch := omega) only [go_sem, ↓reduceIte, reduceCtorEq, pappend, plen]; refine hK _ _ ?_; clear hK K
    exact PW.ret ⟨_, rfl, Fin.base (.id' (by simp [vseq, h1, slot, Nat.beq]) (.bool _))⟩
  have h1 : vsz s = true := by simpa using h
  refine PW.skip (PW.seq (PW.seq (PW.rgv [1] 64 (.bool (!vrt s)) rfl ?_ ?_)))
  · simp (disch := omega) only [go_sem, ↓reduceIte, reduceCtorEq, pappend, plen]; (repeat' (first | ((first | refine VO_cond ?_ ?_ | refine VOd_cond ?_ ?_ | refine VOg_cond ?_ ?_ | refine VOh_cond ?_ ?_ | refine VOi_cond ?_ ?_ | refine And.intro ?_ ?_) <;> intro h <;> (try simp only [Bool.not_eq_true', Bool.not_eq_false', decide_eq_true_eq, decide_eq_false_iff_not] at h) <;> simp (disch := omega) only [go_sem, ↓reduceIte, reduceCtorEq, pappend, plen, h]) | ((first | refine VCx.call (rat_ref _ _ _ hnum hden) rfl ?_ | refine VCy.call (rat_ref _ _ _ hnum hden) rfl ?_ | refine VCz.call (fun _ => rat_ref _ _ _ hnum hden) rfl ?_ | refine VCk.call (fun _ _ => rat_ref _ _ _ hnum hden) rfl ?_ | refine VCj.now (rat_ref _ _ _ hnum hden) rfl ?_); simp (disch := omega) only [go_sem, ↓reduceIte, reduceCtorEq, pappend, plen])))
    all_goals (simp_all [vrt, slot, Nat.beq] <;> first | rfl | omega | (rw [Bool.eq_iff_iff]; simp; done) | (rw [Bool.eq_iff_iff]; simp; omega))
  (repeat refine PW.seq ?_); refine PW.cond (t := _) rfl (fun h => ?_) (fun h => ?_)
  · have h2 : vrt s = false := by simpa using h
    (repeat refine PW.seq ?_); refine PW.rg rfl fun K hK => ?_; simp (disch := omega) only [go_sem, ↓reduceIte, reduceCtorEq, pappend, plen]; refine hK _ _ ?_; clear hK K
    exact PW.ret ⟨_, rfl, Fin.base (.id' (by simp [vseq, h1, h2, slot, Nat.beq]) (.bool _))⟩
  have h2 : vrt s = true := by simpa using h
  refine PW.skip (PW.seq (PW.seq (PW.rgv [1] 82 (.bool (!vbr s)) rfl ?_ ?_)))
  · simp (disch := omega) only [go_sem, ↓reduceIte, reduceCtorEq, pappend, plen]; (repeat' ((first | refine VO_cond ?_ ?_ | refine VOd_cond ?_ ?_ | refine VOg_cond ?_ ?_ | refine VOh_cond ?_ ?_ | refine VOi_cond ?_ ?_ | refine And.intro ?_ ?_) <;> intro h <;> (try simp only [Bool.not_eq_true', Bool.not_eq_false', decide_eq_true_eq, decide_eq_false_iff_not] at h) <;> simp (disch := omega) only [go_sem, ↓reduceIte, reduceCtorEq, pappend, plen, h]))
    all_goals (simp_all [vbr, slot, Nat.beq] <;> first | rfl | omega | (rw [Bool.eq_iff_iff]; simp; done) | (rw [Bool.eq_iff_iff]; simp; omega))
  (repeat refine PW.seq ?_); refine PW.cond (t := _) rfl (fun h => ?_) (fun h => ?_)
  · have h3 : vbr s = false := by simpa using h
    (repeat refine PW.seq ?_); refine PW.rg rfl fun K hK => ?_; simp (disch := omega) only [go_sem, ↓reduceIte, reduceCtorEq, pappend, plen]; refine hK _ _ ?_; clear hK K
    exact PW.ret ⟨_, rfl, Fin.base (.id' (by simp [vseq, h1, h2, h3, slot, Nat.beq]) (.bool _))⟩
  have h3 : vbr s = true := by simpa using h
  have h2' := h2
  have h3' := h3
  simp only [vrt, vbr, Bool.and_eq_true, decide_eq_true_eq] at h2' h3'
  have hdp := ratOk_pos h2'.1.1.1
  have hb1 := prod_bd (a := 2 * s.num) (b := s.bf) (A := 2097152) (B := 8388608) (by omega) (by omega) (by omega) (by omega)
  have hb2 := prod_bd (a := 3 * s.den) (b := s.br) (A := 196608) (B := 16777216) (by omega) (by omega) (by omega) (by omega)
  refine PW.skip ?_
  (repeat refine PW.seq ?_); refine PW.rg rfl fun K hK => ?_; simp (disch := omega) only [go_sem, ↓reduceIte, reduceCtorEq, pappend, plen]; refine hK _ _ ?_; clear hK K
  (repeat refine PW.seq ?_); refine PW.cond (t := _) rfl (fun h => ?_) (fun h => ?_)
  · have h4 : vbu s = false := by have := of_decide_eq_true h; simp [vbu]; omega
    (repeat refine PW.seq ?_); refine PW.rg rfl fun K hK => ?_; simp (disch := omega) only [go_sem, ↓reduceIte, reduceCtorEq, pappend, plen]; refine hK _ _ ?_; clear hK K
    exact PW.ret ⟨_, rfl, Fin.base (.id' (by simp [vseq, h1, h2, h3, h4, slot, Nat.beq]) (.bool _))⟩
  have h4 : vbu s = true := by have := of_decide_eq_false h; simp [vbu]; omega
  refine PW.skip ?_
  (repeat refine PW.seq ?_); refine PW.rg rfl fun K hK => ?_; simp (disch := omega) only [go_sem, ↓reduceIte, reduceCtorEq, pappend, plen, sq_ia, sq_ie, sq_tk, List.length_append, length_bs]; (repeat' (first | ((first | refine VO_cond ?_ ?_ | refine VOd_cond ?_ ?_ | refine VOg_cond ?_ ?_ | refine VOh_cond ?_ ?_ | refine VOi_cond ?_ ?_ | refine And.intro ?_ ?_) <;> intro h <;> (try simp only [Bool.not_eq_true', Bool.not_eq_false', decide_eq_true_eq, decide_eq_false_iff_not] at h) <;> simp (disch := omega) only [go_sem, ↓reduceIte, reduceCtorEq, pappend, plen, sq_ia, sq_ie, sq_tk, List.length_append, length_bs, h]) | ((first | refine VCx.call (mx_ref _ _ hia) rfl ?_ | refine VCx.call (mx_ref _ _ hie) rfl ?_ | refine VCy.call (mx_ref _ _ hia) rfl ?_ | refine VCy.call (mx_ref _ _ hie) rfl ?_ | refine VCz.call (fun _ => mx_ref _ _ hia) rfl ?_ | refine VCz.call (fun _ => mx_ref _ _ hie) rfl ?_ | refine VCk.call (fun _ _ => mx_ref _ _ hia) rfl ?_ | refine VCk.call (fun _ _ => mx_ref _ _ hie) rfl ?_ | refine VCj.now (mx_ref _ _ hia) rfl ?_ | refine VCj.now (mx_ref _ _ hie) rfl ?_); simp (disch := omega) only [go_sem, ↓reduceIte, reduceCtorEq, pappend, plen, sq_ia, sq_ie, sq_tk, List.length_append, length_bs])))
  all_goals (refine hK _ _ ?_; clear hK K)
  all_goals exact PW.ret ⟨_, rfl, Fin.base (.id' (by simp_all [vseq, slot, Nat.beq]) (.bool _))⟩

/-- A picture header. -/
structure Pi where
  ty : Int
  st : Int
  od : Int
  tf : Bool
  rp : Bool
  al : Bool
def pic (h : Pi) : List PV := [.int .i64 h.ty, .int .i64 h.st, .int .i64 h.od, .bool h.tf, .bool h.rp, .bool h.al]
def codd (h : Pi) : Bool := decide (0 ≤ h.od) && decide (h.od ≤ 1023) && decide (1 ≤ h.ty) && decide (h.ty ≤ 3) && decide (1 ≤ h.st) && decide (h.st ≤ 3)
theorem codd_ok (h : Pi) (H : Heap) : CallOk Tryz.prog 113 [.agg (pic h)] H (.bool (codd h)) H := by
  obtain ⟨ty, st, od, tf, rp, al⟩ := h
  refine CallOk.body (F0 := [(0, .agg (pic ⟨ty, st, od, tf, rp, al⟩))]) Tryz.func113 rfl Tryz.ntmps113 Tryz.results113 rfl (by kernel_rfl) rfl ?_
  (repeat' (first | refine PW.seq ?_ | refine PW.skip ?_ | refine PW.block ?_ | (refine PW.rg rfl fun K hK => ?_; simp (disch := omega) only [go_sem, ↓reduceIte, reduceCtorEq, pappend, plen, pic]) | (refine PW.draw mix (by kernel_rfl) fun K hK => ?_; simp (disch := omega) only [go_sem, ↓reduceIte, reduceCtorEq, pappend, plen, pic]) | (refine PW.drawg mix (by kernel_rfl) fun K hK => ?_; simp (disch := omega) only [go_sem, ↓reduceIte, reduceCtorEq, pappend, plen, pic]) | (refine PW.drawt [] [] mix (by kernel_rfl) fun K hK => ?_; simp (disch := omega) only [go_sem, ↓reduceIte, reduceCtorEq, pappend, plen, pic]) | ((first | refine VO_cond ?_ ?_ | refine VOd_cond ?_ ?_ | refine VOg_cond ?_ ?_ | refine VOh_cond ?_ ?_ | refine VOi_cond ?_ ?_ | refine And.intro ?_ ?_) <;> intro h <;> (try simp only [Bool.not_eq_true', Bool.not_eq_false', decide_eq_true_eq, decide_eq_false_iff_not] at h) <;> simp (disch := omega) only [go_sem, ↓reduceIte, reduceCtorEq, pappend, plen, pic, h]) | (refine hK _ _ ?_; clear hK K) | (refine PW.cond (t := _) rfl (fun h => ?_) (fun h => ?_) <;> (try (cases h; done)) <;> (try simp only [Bool.not_eq_true', Bool.not_eq_false', decide_eq_true_eq, decide_eq_false_iff_not] at h))))
  all_goals ((refine PW.ret ⟨_, rfl, ?_⟩; first | refine .inl ⟨?_, rfl⟩ | refine Fin.base (.id' ?_ (.bool _)) | refine Fin.base (.id' ?_ (.int _ _))); (simp_all [codd, slot, Nat.beq] <;> first | rfl | omega | (rw [Bool.eq_iff_iff]; simp; done) | (rw [Bool.eq_iff_iff]; simp; omega)))
theorem codd_ref (h : Pi) (H : Heap) : CallOk Tryz.prog 53 [.agg (pic h)] H (.bool (codd h)) H := by
  obtain ⟨ty, st, od, tf, rp, al⟩ := h
  refine CallOk.body (F0 := [(0, .agg (pic ⟨ty, st, od, tf, rp, al⟩))]) Tryz.func53 rfl Tryz.ntmps53 Tryz.results53 rfl (by kernel_rfl) rfl ?_
  (repeat' (first | refine PW.seq ?_ | refine PW.skip ?_ | refine PW.block ?_ | (refine PW.rg rfl fun K hK => ?_; simp (disch := omega) only [go_sem, ↓reduceIte, reduceCtorEq, pappend, plen, pic]) | (refine PW.draw mix (by kernel_rfl) fun K hK => ?_; simp (disch := omega) only [go_sem, ↓reduceIte, reduceCtorEq, pappend, plen, pic]) | (refine PW.drawg mix (by kernel_rfl) fun K hK => ?_; simp (disch := omega) only [go_sem, ↓reduceIte, reduceCtorEq, pappend, plen, pic]) | (refine PW.drawt [] [] mix (by kernel_rfl) fun K hK => ?_; simp (disch := omega) only [go_sem, ↓reduceIte, reduceCtorEq, pappend, plen, pic]) | ((first | refine VO_cond ?_ ?_ | refine VOd_cond ?_ ?_ | refine VOg_cond ?_ ?_ | refine VOh_cond ?_ ?_ | refine VOi_cond ?_ ?_ | refine And.intro ?_ ?_) <;> intro h <;> (try simp only [Bool.not_eq_true', Bool.not_eq_false', decide_eq_true_eq, decide_eq_false_iff_not] at h) <;> simp (disch := omega) only [go_sem, ↓reduceIte, reduceCtorEq, pappend, plen, pic, h]) | (refine hK _ _ ?_; clear hK K) | (refine PW.cond (t := _) rfl (fun h => ?_) (fun h => ?_) <;> (try (cases h; done)) <;> (try simp only [Bool.not_eq_true', Bool.not_eq_false', decide_eq_true_eq, decide_eq_false_iff_not] at h))))
  all_goals ((refine PW.ret ⟨_, rfl, ?_⟩; first | refine .inl ⟨?_, rfl⟩ | refine Fin.base (.id' ?_ (.bool _)) | refine Fin.base (.id' ?_ (.int _ _))); (simp_all [codd, slot, Nat.beq] <;> first | rfl | omega | (rw [Bool.eq_iff_iff]; simp; done) | (rw [Bool.eq_iff_iff]; simp; omega)))
def pvalid (s : Sq) (p : Pi) : Bool := vseq s && codd p && (s.il || ((p.st == 3) && p.tf && !p.rp))
theorem pvalid_ok (s : Sq) (p : Pi) (H : Heap) (hs : SqOk s) : CallOk Tryz.prog 121 [.agg (sqc s), .agg (pic p)] H (.bool (pvalid s p)) H := by
  have hall : (bs s.ia ++ bs s.ie).all PV.cell = true := by simp [bs, PV.cell]
  have hlen : (bs s.ia ++ bs s.ie).length = 128 := by simp [length_bs, hs.ia, hs.ie]
  have htk := sq_all s.ia s.ie hs.ia hs.ie
  refine CallOk.body (F0 := [(0, .agg (sqc s)), (1, .agg (pic p))]) Tryz.func121 rfl Tryz.ntmps121 Tryz.results121 rfl (by kernel_rfl) rfl ?_
  (repeat' (first | refine PW.seq ?_ | refine PW.skip ?_ | refine PW.block ?_ | (refine PW.rg rfl fun K hK => ?_; simp (disch := omega) only [go_sem, ↓reduceIte, reduceCtorEq, pappend, plen, sqc, pic, hall, hlen, htk]) | (refine PW.draw mix (by kernel_rfl) fun K hK => ?_; simp (disch := omega) only [go_sem, ↓reduceIte, reduceCtorEq, pappend, plen, sqc, pic, hall, hlen, htk]) | (refine PW.drawg mix (by kernel_rfl) fun K hK => ?_; simp (disch := omega) only [go_sem, ↓reduceIte, reduceCtorEq, pappend, plen, sqc, pic, hall, hlen, htk]) | (refine PW.drawt [] [] mix (by kernel_rfl) fun K hK => ?_; simp (disch := omega) only [go_sem, ↓reduceIte, reduceCtorEq, pappend, plen, sqc, pic, hall, hlen, htk]) | ((first | refine VO_cond ?_ ?_ | refine VOd_cond ?_ ?_ | refine VOg_cond ?_ ?_ | refine VOh_cond ?_ ?_ | refine VOi_cond ?_ ?_ | refine And.intro ?_ ?_) <;> intro h <;> (try simp only [Bool.not_eq_true', Bool.not_eq_false', decide_eq_true_eq, decide_eq_false_iff_not] at h) <;> simp (disch := omega) only [go_sem, ↓reduceIte, reduceCtorEq, pappend, plen, sqc, pic, hall, hlen, htk, h]) | ((first | refine VCx.call (vseq_ok s _ hs) rfl ?_ | refine VCx.call (codd_ok p _) rfl ?_ | refine VCy.call (vseq_ok s _ hs) rfl ?_ | refine VCy.call (codd_ok p _) rfl ?_ | refine VCz.call (fun _ => vseq_ok s _ hs) rfl ?_ | refine VCz.call (fun _ => codd_ok p _) rfl ?_ | refine VCk.call (fun _ _ => vseq_ok s _ hs) rfl ?_ | refine VCk.call (fun _ _ => codd_ok p _) rfl ?_ | refine VCj.now (vseq_ok s _ hs) rfl ?_ | refine VCj.now (codd_ok p _) rfl ?_); simp (disch := omega) only [go_sem, ↓reduceIte, reduceCtorEq, pappend, plen, sqc, pic, hall, hlen, htk]) | (refine hK _ _ ?_; clear hK K) | (refine PW.cond (t := _) rfl (fun h => ?_) (fun h => ?_) <;> (try (cases h; done)) <;> (try simp only [Bool.not_eq_true', Bool.not_eq_false', decide_eq_true_eq, decide_eq_false_iff_not] at h))))
  all_goals ((refine PW.ret ⟨_, rfl, ?_⟩; first | refine .inl ⟨?_, rfl⟩ | refine Fin.base (.id' ?_ (.bool _)) | refine Fin.base (.id' ?_ (.int _ _))); (simp_all [pvalid, slot, Nat.beq] <;> first | rfl | omega | (rw [Bool.eq_iff_iff]; simp; done) | (rw [Bool.eq_iff_iff]; simp; omega)))
theorem pvalid_ref (s : Sq) (p : Pi) (H : Heap) (hs : SqOk s) : CallOk Tryz.prog 21 [.agg (sqc s), .agg (pic p)] H (.bool (pvalid s p)) H := by
  have hall : (bs s.ia ++ bs s.ie).all PV.cell = true := by simp [bs, PV.cell]
  have hlen : (bs s.ia ++ bs s.ie).length = 128 := by simp [length_bs, hs.ia, hs.ie]
  have htk := sq_all s.ia s.ie hs.ia hs.ie
  refine CallOk.body (F0 := [(0, .agg (sqc s)), (1, .agg (pic p))]) Tryz.func21 rfl Tryz.ntmps21 Tryz.results21 rfl (by kernel_rfl) rfl ?_
  (repeat' (first | refine PW.seq ?_ | refine PW.skip ?_ | refine PW.block ?_ | (refine PW.rg rfl fun K hK => ?_; simp (disch := omega) only [go_sem, ↓reduceIte, reduceCtorEq, pappend, plen, sqc, pic, hall, hlen, htk]) | (refine PW.draw mix (by kernel_rfl) fun K hK => ?_; simp (disch := omega) only [go_sem, ↓reduceIte, reduceCtorEq, pappend, plen, sqc, pic, hall, hlen, htk]) | (refine PW.drawg mix (by kernel_rfl) fun K hK => ?_; simp (disch := omega) only [go_sem, ↓reduceIte, reduceCtorEq, pappend, plen, sqc, pic, hall, hlen, htk]) | (refine PW.drawt [] [] mix (by kernel_rfl) fun K hK => ?_; simp (disch := omega) only [go_sem, ↓reduceIte, reduceCtorEq, pappend, plen, sqc, pic, hall, hlen, htk]) | ((first | refine VO_cond ?_ ?_ | refine VOd_cond ?_ ?_ | refine VOg_cond ?_ ?_ | refine VOh_cond ?_ ?_ | refine VOi_cond ?_ ?_ | refine And.intro ?_ ?_) <;> intro h <;> (try simp only [Bool.not_eq_true', Bool.not_eq_false', decide_eq_true_eq, decide_eq_false_iff_not] at h) <;> simp (disch := omega) only [go_sem, ↓reduceIte, reduceCtorEq, pappend, plen, sqc, pic, hall, hlen, htk, h]) | ((first | refine VCx.call (vseq_ref s _ hs) rfl ?_ | refine VCx.call (codd_ref p _) rfl ?_ | refine VCy.call (vseq_ref s _ hs) rfl ?_ | refine VCy.call (codd_ref p _) rfl ?_ | refine VCz.call (fun _ => vseq_ref s _ hs) rfl ?_ | refine VCz.call (fun _ => codd_ref p _) rfl ?_ | refine VCk.call (fun _ _ => vseq_ref s _ hs) rfl ?_ | refine VCk.call (fun _ _ => codd_ref p _) rfl ?_ | refine VCj.now (vseq_ref s _ hs) rfl ?_ | refine VCj.now (codd_ref p _) rfl ?_); simp (disch := omega) only [go_sem, ↓reduceIte, reduceCtorEq, pappend, plen, sqc, pic, hall, hlen, htk]) | (refine hK _ _ ?_; clear hK K) | (refine PW.cond (t := _) rfl (fun h => ?_) (fun h => ?_) <;> (try (cases h; done)) <;> (try simp only [Bool.not_eq_true', Bool.not_eq_false', decide_eq_true_eq, decide_eq_false_iff_not] at h))))
  all_goals ((refine PW.ret ⟨_, rfl, ?_⟩; first | refine .inl ⟨?_, rfl⟩ | refine Fin.base (.id' ?_ (.bool _)) | refine Fin.base (.id' ?_ (.int _ _))); (simp_all [pvalid, slot, Nat.beq] <;> first | rfl | omega | (rw [Bool.eq_iff_iff]; simp; done) | (rw [Bool.eq_iff_iff]; simp; omega)))
theorem vseq_h {s : Sq} (h : vseq s = true) : 16 ≤ s.h ∧ s.h ≤ 64 ∧ 16 ≤ s.w ∧ s.w ≤ 64 := by
  simp [vseq, vsz, mbs] at h
  omega
theorem pvalid_h {s : Sq} {p : Pi} (hv : pvalid s p = true) : 16 ≤ s.h ∧ s.h ≤ 64 ∧ 16 ≤ s.w ∧ s.w ≤ 64 := by
  simp only [pvalid, Bool.and_eq_true] at hv
  exact vseq_h hv.1.1
def hgt (s : Sq) (p : Pi) : Int := if p.st = 3 then s.h else s.h.tdiv 2
theorem hgt_ok (s : Sq) (p : Pi) (H : Heap) (hs : SqOk s) (hv : 0 ≤ s.h) : CallOk Tryz.prog 118 [.agg (sqc s), .agg (pic p)] H (.int .i64 (hgt s p)) H := by
  have hall : (bs s.ia ++ bs s.ie).all PV.cell = true := by simp [bs, PV.cell]
  have hlen : (bs s.ia ++ bs s.ie).length = 128 := by simp [length_bs, hs.ia, hs.ie]
  have hh := hs.h
  refine CallOk.body (F0 := [(0, .agg (sqc s)), (1, .agg (pic p))]) Tryz.func118 rfl Tryz.ntmps118 Tryz.results118 rfl (by kernel_rfl) rfl ?_
  (repeat' (first | refine PW.seq ?_ | refine PW.skip ?_ | refine PW.block ?_ | (refine PW.rg rfl fun K hK => ?_; simp (disch := omega) only [go_sem, ↓reduceIte, reduceCtorEq, pappend, plen, sqc, pic, hall, hlen, wq64]) | (refine PW.draw mix (by kernel_rfl) fun K hK => ?_; simp (disch := omega) only [go_sem, ↓reduceIte, reduceCtorEq, pappend, plen, sqc, pic, hall, hlen, wq64]) | (refine PW.drawg mix (by kernel_rfl) fun K hK => ?_; simp (disch := omega) only [go_sem, ↓reduceIte, reduceCtorEq, pappend, plen, sqc, pic, hall, hlen, wq64]) | (refine PW.drawt [] [] mix (by kernel_rfl) fun K hK => ?_; simp (disch := omega) only [go_sem, ↓reduceIte, reduceCtorEq, pappend, plen, sqc, pic, hall, hlen, wq64]) | ((first | refine VO_cond ?_ ?_ | refine VOd_cond ?_ ?_ | refine VOg_cond ?_ ?_ | refine VOh_cond ?_ ?_ | refine VOi_cond ?_ ?_ | refine And.intro ?_ ?_) <;> intro h <;> (try simp only [Bool.not_eq_true', Bool.not_eq_false', decide_eq_true_eq, decide_eq_false_iff_not] at h) <;> simp (disch := omega) only [go_sem, ↓reduceIte, reduceCtorEq, pappend, plen, sqc, pic, hall, hlen, wq64, h]) | (refine hK _ _ ?_; clear hK K) | (refine PW.cond (t := _) rfl (fun h => ?_) (fun h => ?_) <;> (try (cases h; done)) <;> (try simp only [Bool.not_eq_true', Bool.not_eq_false', decide_eq_true_eq, decide_eq_false_iff_not] at h))))
  all_goals ((refine PW.ret ⟨_, rfl, ?_⟩; first | refine .inl ⟨?_, rfl⟩ | refine Fin.base (.id' ?_ (.bool _)) | refine Fin.base (.id' ?_ (.int _ _))); (simp_all [hgt, slot, Nat.beq] <;> first | rfl | omega | (rw [Bool.eq_iff_iff]; simp; done) | (rw [Bool.eq_iff_iff]; simp; omega)))
def prows (s : Sq) (p : Pi) : Int := if pvalid s p then (if p.st = 3 then s.h.tdiv 16 else s.h.tdiv 32) else 0
theorem prows_ok (s : Sq) (p : Pi) (H : Heap) (hs : SqOk s) : CallOk Tryz.prog 57 [.agg (sqc s), .agg (pic p)] H (.int .i64 (prows s p)) H := by
  have hall : (bs s.ia ++ bs s.ie).all PV.cell = true := by simp [bs, PV.cell]
  have hlen : (bs s.ia ++ bs s.ie).length = 128 := by simp [length_bs, hs.ia, hs.ie]
  have htk := sq_all s.ia s.ie hs.ia hs.ie
  refine CallOk.body (F0 := [(0, .agg (sqc s)), (1, .agg (pic p))]) Tryz.func57 rfl Tryz.ntmps57 Tryz.results57 rfl (by kernel_rfl) rfl ?_
  cases hp : pvalid s p with
  | false =>
    have hpv := fun H => pvalid_ok s p H hs
    rw [hp] at hpv
    (repeat' (first | refine PW.seq ?_ | refine PW.skip ?_ | refine PW.block ?_ | (refine PW.rg rfl fun K hK => ?_; simp (disch := omega) only [go_sem, ↓reduceIte, reduceCtorEq, pappend, plen, sqc, pic, hall, hlen, htk]) | (refine PW.draw mix (by kernel_rfl) fun K hK => ?_; simp (disch := omega) only [go_sem, ↓reduceIte, reduceCtorEq, pappend, plen, sqc, pic, hall, hlen, htk]) | (refine PW.drawg mix (by kernel_rfl) fun K hK => ?_; simp (disch := omega) only [go_sem, ↓reduceIte, reduceCtorEq, pappend, plen, sqc, pic, hall, hlen, htk]) | (refine PW.drawt [] [] mix (by kernel_rfl) fun K hK => ?_; simp (disch := omega) only [go_sem, ↓reduceIte, reduceCtorEq, pappend, plen, sqc, pic, hall, hlen, htk]) | ((first | refine VO_cond ?_ ?_ | refine VOd_cond ?_ ?_ | refine VOg_cond ?_ ?_ | refine VOh_cond ?_ ?_ | refine VOi_cond ?_ ?_ | refine And.intro ?_ ?_) <;> intro h <;> (try simp only [Bool.not_eq_true', Bool.not_eq_false', decide_eq_true_eq, decide_eq_false_iff_not] at h) <;> simp (disch := omega) only [go_sem, ↓reduceIte, reduceCtorEq, pappend, plen, sqc, pic, hall, hlen, htk, h]) | ((first | refine VCx.call (hpv _) rfl ?_ | refine VCy.call (hpv _) rfl ?_ | refine VCz.call (fun _ => hpv _) rfl ?_ | refine VCk.call (fun _ _ => hpv _) rfl ?_ | refine VCj.now (hpv _) rfl ?_); simp (disch := omega) only [go_sem, ↓reduceIte, reduceCtorEq, pappend, plen, sqc, pic, hall, hlen, htk]) | (refine hK _ _ ?_; clear hK K) | (refine PW.cond (t := _) rfl (fun h => ?_) (fun h => ?_) <;> (try (cases h; done)) <;> (try simp only [Bool.not_eq_true', Bool.not_eq_false', decide_eq_true_eq, decide_eq_false_iff_not] at h))))
    all_goals ((refine PW.ret ⟨_, rfl, ?_⟩; first | refine .inl ⟨?_, rfl⟩ | refine Fin.base (.id' ?_ (.bool _)) | refine Fin.base (.id' ?_ (.int _ _))); simp [prows, hp, slot, Nat.beq])
  | true =>
    have hpv := fun H => pvalid_ok s p H hs
    rw [hp] at hpv
    have hh := pvalid_h hp
    have hg : 0 ≤ hgt s p ∧ hgt s p ≤ 64 := by
      unfold hgt; rw [tdiv_pos _ _ (by omega)]; split <;> omega
    (repeat' (first | refine PW.seq ?_ | refine PW.skip ?_ | refine PW.block ?_ | (refine PW.rg rfl fun K hK => ?_; simp (disch := omega) only [go_sem, ↓reduceIte, reduceCtorEq, pappend, plen, sqc, pic, hall, hlen, htk, wq64]) | (refine PW.draw mix (by kernel_rfl) fun K hK => ?_; simp (disch := omega) only [go_sem, ↓reduceIte, reduceCtorEq, pappend, plen, sqc, pic, hall, hlen, htk, wq64]) | (refine PW.drawg mix (by kernel_rfl) fun K hK => ?_; simp (disch := omega) only [go_sem, ↓reduceIte, reduceCtorEq, pappend, plen, sqc, pic, hall, hlen, htk, wq64]) | (refine PW.drawt [] [] mix (by kernel_rfl) fun K hK => ?_; simp (disch := omega) only [go_sem, ↓reduceIte, reduceCtorEq, pappend, plen, sqc, pic, hall, hlen, htk, wq64]) | ((first | refine VO_cond ?_ ?_ | refine VOd_cond ?_ ?_ | refine VOg_cond ?_ ?_ | refine VOh_cond ?_ ?_ | refine VOi_cond ?_ ?_ | refine And.intro ?_ ?_) <;> intro h <;> (try simp only [Bool.not_eq_true', Bool.not_eq_false', decide_eq_true_eq, decide_eq_false_iff_not] at h) <;> simp (disch := omega) only [go_sem, ↓reduceIte, reduceCtorEq, pappend, plen, sqc, pic, hall, hlen, htk, wq64, h]) | ((first | refine VCx.call (hpv _) rfl ?_ | refine VCx.call (hgt_ok s p _ hs (by omega)) rfl ?_ | refine VCy.call (hpv _) rfl ?_ | refine VCy.call (hgt_ok s p _ hs (by omega)) rfl ?_ | refine VCz.call (fun _ => hpv _) rfl ?_ | refine VCz.call (fun _ => hgt_ok s p _ hs (by omega)) rfl ?_ | refine VCk.call (fun _ _ => hpv _) rfl ?_ | refine VCk.call (fun _ _ => hgt_ok s p _ hs (by omega)) rfl ?_ | refine VCj.now (hpv _) rfl ?_ | refine VCj.now (hgt_ok s p _ hs (by omega)) rfl ?_); simp (disch := omega) only [go_sem, ↓reduceIte, reduceCtorEq, pappend, plen, sqc, pic, hall, hlen, htk, wq64]) | (refine hK _ _ ?_; clear hK K) | (refine PW.cond (t := _) rfl (fun h => ?_) (fun h => ?_) <;> (try (cases h; done)) <;> (try simp only [Bool.not_eq_true', Bool.not_eq_false', decide_eq_true_eq, decide_eq_false_iff_not] at h))))
    all_goals ((refine PW.ret ⟨_, rfl, ?_⟩; first | refine .inl ⟨?_, rfl⟩ | refine Fin.base (.id' ?_ (.bool _)) | refine Fin.base (.id' ?_ (.int _ _))); simp [prows, hp, slot, Nat.beq])
    simp only [hgt, tdiv_pos _ _ (show 0 ≤ s.h by omega)]
    rw [tdiv_pos _ _ (by split <;> omega)]
    split <;> omega

end Go.Proofs.YtahomnplappbpaaGreatDoor.Sc

namespace Go.Proofs.YtahomnplappbpaaGreatDoor.Lp
set_option linter.all false
set_option linter.unusedVariables false
set_option linter.unusedSimpArgs false
open Go.ChangeShapes Go.WideShapes Go.ChangeAt Go.RowKit Pm Sc

theorem own : ownKnob Tryz.prog.godebug = none := by kernel_rfl
theorem laidOut : laidOutB Tryz.prog = true := by kernel_rfl

theorem bytes_of {zs : List Int} (hw : ∀ z ∈ zs, (Lit.int .u8 z).wf = true) : ∃ p : List UInt8, zs.map (PV.int .u8) = bs p ∧ p.length = zs.length := by
  refine ⟨zs.map fun z => UInt8.ofNat z.toNat, ?_, by simp⟩
  simp only [bs, List.map_map]
  refine List.map_congr_left fun z hz => ?_
  have h1 := hw z hz
  simp [Lit.wf, IntKind.min, IntKind.max, IntKind.signed, IntKind.bits] at h1
  simp only [Function.comp, UInt8.toNat_ofNat']
  congr 1
  omega
theorem shp_bytes {ps : List PV} (h : Shp Tryz.prog 51 ps) : ∃ p : List UInt8, ps = [.slice (bs p) p.length false] := by
  obtain ⟨zs, rfl, _, hw⟩ := h.of_ints Tryz.underlying51 Tryz.underlying5
  obtain ⟨p, e, hl⟩ := bytes_of hw
  exact ⟨p, by rw [e, hl]⟩
theorem shp_mx {ps : List PV} (h : Shp Tryz.prog 36 ps) : ∃ p : List UInt8, ps = bs p ∧ p.length = 64 := by
  obtain ⟨zs, rfl, hl, hw⟩ := h.arr_ints Tryz.underlying36 Tryz.underlying5
  obtain ⟨p, e, hl'⟩ := bytes_of hw
  exact ⟨p, e, by omega⟩
theorem shp_int {ps : List PV} (h : Shp Tryz.prog 3 ps) : ∃ n : Int, ps = [.int .i64 n] ∧ (-9223372036854775808 ≤ n ∧ n ≤ 9223372036854775807) := by
  obtain ⟨n, rfl, hw⟩ := h.of_int Tryz.underlying3
  simp [Lit.wf, IntKind.min, IntKind.max, IntKind.signed, IntKind.bits] at hw
  exact ⟨n, rfl, hw⟩
theorem shp_int64 {ps : List PV} (h : Shp Tryz.prog 2 ps) : ∃ n : Int, ps = [.int .i64 n] ∧ (-9223372036854775808 ≤ n ∧ n ≤ 9223372036854775807) := by
  obtain ⟨n, rfl, hw⟩ := h.of_int Tryz.underlying2
  simp [Lit.wf, IntKind.min, IntKind.max, IntKind.signed, IntKind.bits] at hw
  exact ⟨n, rfl, hw⟩
theorem shp_bool {ps : List PV} (h : Shp Tryz.prog 4 ps) : ∃ b, ps = [.bool b] := h.of_bool Tryz.underlying4
theorem shp_rat {ps : List PV} (h : Shp Tryz.prog 35 ps) : ∃ a b : Int, ps = [.int .i64 a, .int .i64 b] ∧ (-9223372036854775808 ≤ a ∧ a ≤ 9223372036854775807) ∧ (-9223372036854775808 ≤ b ∧ b ≤ 9223372036854775807) := by
  obtain ⟨pss, rfl, hf⟩ := h.fields Tryz.underlying35
  match pss, hf with
  | [a, b], ⟨ha, hb, _⟩ =>
    obtain ⟨a, rfl, h1⟩ := shp_int64 ha
    obtain ⟨b, rfl, h2⟩ := shp_int64 hb
    exact ⟨a, b, rfl, h1, h2⟩
theorem shp_seq {ps : List PV} (h : Shp Tryz.prog 38 ps) : ∃ s : Sq, ps = sqc s ∧ SqOk s := by
  obtain ⟨pss, rfl, hf⟩ := h.fields Tryz.underlying38
  match pss, hf with
  | [a, b, c, d, e, f, g, k], ⟨ha, hb, hc, hd, he, hf, hg, hk, _⟩ =>
    obtain ⟨a, rfl, h1⟩ := shp_int ha
    obtain ⟨b, rfl, h2⟩ := shp_int hb
    obtain ⟨n, m, rfl, h3, h4⟩ := shp_rat hc
    obtain ⟨d, rfl⟩ := shp_bool hd
    obtain ⟨e, rfl, h5⟩ := shp_int he
    obtain ⟨f, rfl, h6⟩ := shp_int hf
    obtain ⟨p, rfl, h7⟩ := shp_mx hg
    obtain ⟨q, rfl, h8⟩ := shp_mx hk
    exact ⟨⟨a, b, n, m, d, e, f, p, q⟩, by simp [sqc], ⟨h1, h2, h3, h4, h5, h6, h7, h8⟩⟩
theorem shp_pic {ps : List PV} (h : Shp Tryz.prog 70 ps) : ∃ p : Pi, ps = pic p ∧ (-9223372036854775808 ≤ p.ty ∧ p.ty ≤ 9223372036854775807) ∧ (-9223372036854775808 ≤ p.st ∧ p.st ≤ 9223372036854775807) ∧ (-9223372036854775808 ≤ p.od ∧ p.od ≤ 9223372036854775807) := by
  obtain ⟨pss, rfl, hf⟩ := h.fields Tryz.underlying70
  match pss, hf with
  | [a, b, c, d, e, f], ⟨ha, hb, hc, hd, he, hf, _⟩ =>
    obtain ⟨a, rfl, h1⟩ := shp_int ha
    obtain ⟨b, rfl, h2⟩ := shp_int hb
    obtain ⟨c, rfl, h3⟩ := shp_int hc
    obtain ⟨d, rfl⟩ := shp_bool hd
    obtain ⟨e, rfl⟩ := shp_bool he
    obtain ⟨f, rfl⟩ := shp_bool hf
    exact ⟨⟨a, b, c, d, e, f⟩, rfl, h1, h2, h3⟩
end Go.Proofs.YtahomnplappbpaaGreatDoor.Lp
