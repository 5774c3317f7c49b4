/-
  Contracts of chapter 10: macroblocks, the small functions.
-/
import Derived.Test.YthmladiijdlgkaaGreatBs
namespace Go.Proofs.YthmladiijdlgkaaGreat.Sc
set_option linter.all false
set_option linter.unusedVariables false
set_option linter.unusedSimpArgs false
open Pm Ty Go.RowKit
structure Cx where
  t : Int
  s : Int
  i : Bool
  n : Bool
def cxc (c : Cx) : List PV := [.int .i64 c.t, .int .i64 c.s, .bool c.i, .bool c.n]
def vcx (c : Cx) : Bool := decide (1 ≤ c.t) && (decide (c.t ≤ 3) && (decide (1 ≤ c.s) && (decide (c.s ≤ 3) && (if c.s = 3 then !c.n else c.i))))
def fcx (c : Cx) : Bool := decide (c.s ≠ 3)
def bcx (c : Cx) : Bool := c.i && decide (c.s = 3)
structure Mb where
  k : Int
  ua : Bool
  ub : Bool
  fp : Bool
  fd : Bool
  va : Int
  vb : Int
  vc : Int
  vd : Int
  ve : Int
  vf : Int
  vg : Int
  vh : Int
  sa : Int
  sb : Int
  sc : Int
  sd : Int
  dl : Int
  ca : Bool
  cb : Bool
  cc : Bool
  cd : Bool
  ce : Bool
  cf : Bool
  lv : List Int
def mbc (m : Mb) : List PV := .int .i64 m.k :: .bool m.ua :: .bool m.ub :: .bool m.fp :: .bool m.fd :: .int .i64 m.va :: .int .i64 m.vb :: .int .i64 m.vc :: .int .i64 m.vd :: .int .i64 m.ve :: .int .i64 m.vf :: .int .i64 m.vg :: .int .i64 m.vh :: .int .i64 m.sa :: .int .i64 m.sb :: .int .i64 m.sc :: .int .i64 m.sd :: .int .i64 m.dl :: .bool m.ca :: .bool m.cb :: .bool m.cc :: .bool m.cd :: .bool m.ce :: .bool m.cf :: is m.lv
def mB (m : Mb) : Blk := ⟨68, 0, mbc m⟩
def anyC (m : Mb) : Bool := m.ca || (m.cb || (m.cc || (m.cd || (m.ce || m.cf))))
def hlM (m : Mb) : Bool := decide (m.k = 1) || anyC m
def win (x n : Int) : Bool := decide (-n ≤ x) && decide (x ≤ n)
def fch (c : Cx) (m : Mb) : Bool := if hlM m then (bcx c || !m.fd) && win m.dl 30 else !m.fd && decide (m.dl = 0)
theorem vcx_ok (c : Cx) (H : Heap) : CallOk Tryz.prog 55 [.agg (cxc c)] H (.bool (vcx c)) H := by
  obtain ⟨t, s, i, n⟩ := c
  refine CallOk.body (F0 := [(0, .agg [.int .i64 t, .int .i64 s, .bool i, .bool n])]) Tryz.func55 rfl Tryz.ntmps55 Tryz.results55 rfl (by kernel_rfl) rfl ?_
  (repeat' (first | refine PW.seq ?_ | refine PW.skip ?_ | refine PW.block ?_ | (refine PW.rg rfl fun K hK => ?_; simp (disch:=omega) only [go_sem, ↓reduceIte]) | (refine PW.draw mix (by kernel_rfl) fun K hK => ?_; simp (disch:=omega) only [go_sem, ↓reduceIte, reduceCtorEq, pappend, plen]) | (refine PW.drawg mix (by kernel_rfl) fun K hK => ?_; simp (disch:=omega) only [go_sem, ↓reduceIte, reduceCtorEq, pappend, plen]) | (refine PW.drawt [] [] mix (by kernel_rfl) fun K hK => ?_; simp (disch:=omega) only [go_sem, ↓reduceIte, reduceCtorEq, pappend, plen]) | ((first | refine VO_cond (fun h => ?_) (fun h => ?_) | refine VOd_cond (fun h => ?_) (fun h => ?_) | refine VOg_cond (fun h => ?_) (fun h => ?_) | refine VOh_cond (fun h => ?_) (fun h => ?_) | refine VOi_cond (fun h => ?_) (fun h => ?_) | refine And.intro (fun h => ?_) (fun h => ?_)) <;> (try simp only [Bool.not_eq_true', Bool.not_eq_false', decide_eq_true_eq, decide_eq_false_iff_not] at h) <;> simp (disch:=omega) only [go_sem, ↓reduceIte, h]) | (refine hK _ _ ?_; clear hK K) | (refine PW.cond (t := _) rfl (fun h => ?_) (fun h => ?_) <;> (try (cases h; done)) <;> (try simp only [decide_eq_true_eq, decide_eq_false_iff_not] at h))))
  all_goals ((refine PW.ret ⟨_, rfl, ?_⟩; first | refine .inl ⟨?_, rfl⟩ | refine Fin.base (.id' ?_ (.bool _)) | refine Fin.base (.id' ?_ (.int _ _))); (simp_all [vcx, slot] <;> first | rfl | omega | (rw [Bool.eq_iff_iff]; simp; done) | (rw [Bool.eq_iff_iff]; simp; omega)))
theorem vcx_ref (c : Cx) (H : Heap) : CallOk Tryz.prog 80 [.agg (cxc c)] H (.bool (vcx c)) H := by
  obtain ⟨t, s, i, n⟩ := c
  refine CallOk.body (F0 := [(0, .agg [.int .i64 t, .int .i64 s, .bool i, .bool n])]) Tryz.func80 rfl Tryz.ntmps80 Tryz.results80 rfl (by kernel_rfl) rfl ?_
  (repeat' (first | refine PW.seq ?_ | refine PW.skip ?_ | refine PW.block ?_ | (refine PW.rg rfl fun K hK => ?_; simp (disch:=omega) only [go_sem, ↓reduceIte]) | (refine PW.draw mix (by kernel_rfl) fun K hK => ?_; simp (disch:=omega) only [go_sem, ↓reduceIte, reduceCtorEq, pappend, plen]) | (refine PW.drawg mix (by kernel_rfl) fun K hK => ?_; simp (disch:=omega) only [go_sem, ↓reduceIte, reduceCtorEq, pappend, plen]) | (refine PW.drawt [] [] mix (by kernel_rfl) fun K hK => ?_; simp (disch:=omega) only [go_sem, ↓reduceIte, reduceCtorEq, pappend, plen]) | ((first | refine VO_cond (fun h => ?_) (fun h => ?_) | refine VOd_cond (fun h => ?_) (fun h => ?_) | refine VOg_cond (fun h => ?_) (fun h => ?_) | refine VOh_cond (fun h => ?_) (fun h => ?_) | refine VOi_cond (fun h => ?_) (fun h => ?_) | refine And.intro (fun h => ?_) (fun h => ?_)) <;> (try simp only [Bool.not_eq_true', Bool.not_eq_false', decide_eq_true_eq, decide_eq_false_iff_not] at h) <;> simp (disch:=omega) only [go_sem, ↓reduceIte, h]) | (refine hK _ _ ?_; clear hK K) | (refine PW.cond (t := _) rfl (fun h => ?_) (fun h => ?_) <;> (try (cases h; done)) <;> (try simp only [decide_eq_true_eq, decide_eq_false_iff_not] at h))))
  all_goals ((refine PW.ret ⟨_, rfl, ?_⟩; first | refine .inl ⟨?_, rfl⟩ | refine Fin.base (.id' ?_ (.bool _)) | refine Fin.base (.id' ?_ (.int _ _))); cases i <;> cases n <;> (simp_all [vcx, slot] <;> first | rfl | omega | (rw [Bool.eq_iff_iff]; simp; done) | (rw [Bool.eq_iff_iff]; simp; omega)))
theorem fcx_ok (c : Cx) (H : Heap) : CallOk Tryz.prog 99 [.agg (cxc c)] H (.bool (fcx c)) H := by
  obtain ⟨t, s, i, n⟩ := c
  refine CallOk.body (F0 := [(0, .agg [.int .i64 t, .int .i64 s, .bool i, .bool n])]) Tryz.func99 rfl Tryz.ntmps99 Tryz.results99 rfl (by kernel_rfl) rfl ?_
  (repeat' (first | refine PW.seq ?_ | refine PW.skip ?_ | refine PW.block ?_ | (refine PW.rg rfl fun K hK => ?_; simp (disch:=omega) only [go_sem, ↓reduceIte]) | (refine PW.draw mix (by kernel_rfl) fun K hK => ?_; simp (disch:=omega) only [go_sem, ↓reduceIte, reduceCtorEq, pappend, plen]) | (refine PW.drawg mix (by kernel_rfl) fun K hK => ?_; simp (disch:=omega) only [go_sem, ↓reduceIte, reduceCtorEq, pappend, plen]) | (refine PW.drawt [] [] mix (by kernel_rfl) fun K hK => ?_; simp (disch:=omega) only [go_sem, ↓reduceIte, reduceCtorEq, pappend, plen]) | ((first | refine VO_cond (fun h => ?_) (fun h => ?_) | refine VOd_cond (fun h => ?_) (fun h => ?_) | refine VOg_cond (fun h => ?_) (fun h => ?_) | refine VOh_cond (fun h => ?_) (fun h => ?_) | refine VOi_cond (fun h => ?_) (fun h => ?_) | refine And.intro (fun h => ?_) (fun h => ?_)) <;> (try simp only [Bool.not_eq_true', Bool.not_eq_false', decide_eq_true_eq, decide_eq_false_iff_not] at h) <;> simp (disch:=omega) only [go_sem, ↓reduceIte, reduceCtorEq, pappend, plen, h]) | (refine hK _ _ ?_; clear hK K) | (refine PW.cond (t := _) rfl (fun h => ?_) (fun h => ?_) <;> (try (cases h; done)) <;> (try simp only [Bool.not_eq_true', Bool.not_eq_false', decide_eq_true_eq, decide_eq_false_iff_not] at h))))
  all_goals ((refine PW.ret ⟨_, rfl, ?_⟩; first | refine .inl ⟨?_, rfl⟩ | refine Fin.base (.id' ?_ (.bool _)) | refine Fin.base (.id' ?_ (.int _ _))); (simp_all [fcx, slot] <;> first | rfl | omega | (rw [Bool.eq_iff_iff]; simp; done) | (rw [Bool.eq_iff_iff]; simp; omega)))
theorem fcx_ref (c : Cx) (H : Heap) : CallOk Tryz.prog 48 [.agg (cxc c)] H (.bool (fcx c)) H := by
  obtain ⟨t, s, i, n⟩ := c
  refine CallOk.body (F0 := [(0, .agg [.int .i64 t, .int .i64 s, .bool i, .bool n])]) Tryz.func48 rfl Tryz.ntmps48 Tryz.results48 rfl (by kernel_rfl) rfl ?_
  (repeat' (first | refine PW.seq ?_ | refine PW.skip ?_ | refine PW.block ?_ | (refine PW.rg rfl fun K hK => ?_; simp (disch:=omega) only [go_sem, ↓reduceIte]) | (refine PW.draw mix (by kernel_rfl) fun K hK => ?_; simp (disch:=omega) only [go_sem, ↓reduceIte, reduceCtorEq, pappend, plen]) | (refine PW.drawg mix (by kernel_rfl) fun K hK => ?_; simp (disch:=omega) only [go_sem, ↓reduceIte, reduceCtorEq, pappend, plen]) | (refine PW.drawt [] [] mix (by kernel_rfl) fun K hK => ?_; simp (disch:=omega) only [go_sem, ↓reduceIte, reduceCtorEq, pappend, plen]) | ((first | refine VO_cond (fun h => ?_) (fun h => ?_) | refine VOd_cond (fun h => ?_) (fun h => ?_) | refine VOg_cond (fun h => ?_) (fun h => ?_) | refine VOh_cond (fun h => ?_) (fun h => ?_) | refine VOi_cond (fun h => ?_) (fun h => ?_) | refine And.intro (fun h => ?_) (fun h => ?_)) <;> (try simp only [Bool.not_eq_true', Bool.not_eq_false', decide_eq_true_eq, decide_eq_false_iff_not] at h) <;> simp (disch:=omega) only [go_sem, ↓reduceIte, reduceCtorEq, pappend, plen, h]) | (refine hK _ _ ?_; clear hK K) | (refine PW.cond (t := _) rfl (fun h => ?_) (fun h => ?_) <;> (try (cases h; done)) <;> (try simp only [Bool.not_eq_true', Bool.not_eq_false', decide_eq_true_eq, decide_eq_false_iff_not] at h))))
  all_goals ((refine PW.ret ⟨_, rfl, ?_⟩; first | refine .inl ⟨?_, rfl⟩ | refine Fin.base (.id' ?_ (.bool _)) | refine Fin.base (.id' ?_ (.int _ _))); (simp_all [fcx, slot] <;> first | rfl | omega | (rw [Bool.eq_iff_iff]; simp; done) | (rw [Bool.eq_iff_iff]; simp; omega)))
theorem bcx_ok (c : Cx) (H : Heap) : CallOk Tryz.prog 71 [.agg (cxc c)] H (.bool (bcx c)) H := by
  obtain ⟨t, s, i, n⟩ := c
  refine CallOk.body (F0 := [(0, .agg [.int .i64 t, .int .i64 s, .bool i, .bool n])]) Tryz.func71 rfl Tryz.ntmps71 Tryz.results71 rfl (by kernel_rfl) rfl ?_
  (repeat' (first | refine PW.seq ?_ | refine PW.skip ?_ | refine PW.block ?_ | (refine PW.rg rfl fun K hK => ?_; simp (disch:=omega) only [go_sem, ↓reduceIte]) | (refine PW.draw mix (by kernel_rfl) fun K hK => ?_; simp (disch:=omega) only [go_sem, ↓reduceIte, reduceCtorEq, pappend, plen]) | (refine PW.drawg mix (by kernel_rfl) fun K hK => ?_; simp (disch:=omega) only [go_sem, ↓reduceIte, reduceCtorEq, pappend, plen]) | (refine PW.drawt [] [] mix (by kernel_rfl) fun K hK => ?_; simp (disch:=omega) only [go_sem, ↓reduceIte, reduceCtorEq, pappend, plen]) | ((first | refine VO_cond (fun h => ?_) (fun h => ?_) | refine VOd_cond (fun h => ?_) (fun h => ?_) | refine VOg_cond (fun h => ?_) (fun h => ?_) | refine VOh_cond (fun h => ?_) (fun h => ?_) | refine VOi_cond (fun h => ?_) (fun h => ?_) | refine And.intro (fun h => ?_) (fun h => ?_)) <;> (try simp only [Bool.not_eq_true', Bool.not_eq_false', decide_eq_true_eq, decide_eq_false_iff_not] at h) <;> simp (disch:=omega) only [go_sem, ↓reduceIte, h]) | (refine hK _ _ ?_; clear hK K) | (refine PW.cond (t := _) rfl (fun h => ?_) (fun h => ?_) <;> (try (cases h; done)) <;> (try simp only [Bool.not_eq_true', Bool.not_eq_false', decide_eq_true_eq, decide_eq_false_iff_not] at h))))
  all_goals ((refine PW.ret ⟨_, rfl, ?_⟩; first | refine .inl ⟨?_, rfl⟩ | refine Fin.base (.id' ?_ (.bool _)) | refine Fin.base (.id' ?_ (.int _ _))); (simp_all [bcx, slot] <;> first | rfl | omega | (rw [Bool.eq_iff_iff]; simp; done) | (rw [Bool.eq_iff_iff]; simp; omega)))
theorem bcx_ref (c : Cx) (H : Heap) : CallOk Tryz.prog 46 [.agg (cxc c)] H (.bool (bcx c)) H := by
  obtain ⟨t, s, i, n⟩ := c
  refine CallOk.body (F0 := [(0, .agg [.int .i64 t, .int .i64 s, .bool i, .bool n])]) Tryz.func46 rfl Tryz.ntmps46 Tryz.results46 rfl (by kernel_rfl) rfl ?_
  (repeat' (first | refine PW.seq ?_ | refine PW.skip ?_ | refine PW.block ?_ | (refine PW.rg rfl fun K hK => ?_; simp (disch:=omega) only [go_sem, ↓reduceIte]) | (refine PW.draw mix (by kernel_rfl) fun K hK => ?_; simp (disch:=omega) only [go_sem, ↓reduceIte, reduceCtorEq, pappend, plen]) | (refine PW.drawg mix (by kernel_rfl) fun K hK => ?_; simp (disch:=omega) only [go_sem, ↓reduceIte, reduceCtorEq, pappend, plen]) | (refine PW.drawt [] [] mix (by kernel_rfl) fun K hK => ?_; simp (disch:=omega) only [go_sem, ↓reduceIte, reduceCtorEq, pappend, plen]) | ((first | refine VO_cond (fun h => ?_) (fun h => ?_) | refine VOd_cond (fun h => ?_) (fun h => ?_) | refine VOg_cond (fun h => ?_) (fun h => ?_) | refine VOh_cond (fun h => ?_) (fun h => ?_) | refine VOi_cond (fun h => ?_) (fun h => ?_) | refine And.intro (fun h => ?_) (fun h => ?_)) <;> (try simp only [Bool.not_eq_true', Bool.not_eq_false', decide_eq_true_eq, decide_eq_false_iff_not] at h) <;> simp (disch:=omega) only [go_sem, ↓reduceIte, h]) | (refine hK _ _ ?_; clear hK K) | (refine PW.cond (t := _) rfl (fun h => ?_) (fun h => ?_) <;> (try (cases h; done)) <;> (try simp only [Bool.not_eq_true', Bool.not_eq_false', decide_eq_true_eq, decide_eq_false_iff_not] at h))))
  all_goals ((refine PW.ret ⟨_, rfl, ?_⟩; first | refine .inl ⟨?_, rfl⟩ | refine Fin.base (.id' ?_ (.bool _)) | refine Fin.base (.id' ?_ (.int _ _))); (simp_all [bcx, slot] <;> first | rfl | omega | (rw [Bool.eq_iff_iff]; simp; done) | (rw [Bool.eq_iff_iff]; simp; omega)))
theorem win_ok (x n : Int) (H : Heap) (hn : 0 ≤ n ∧ n ≤ 10000) : CallOk Tryz.prog 67 [.int .i64 x, .int .i64 n] H (.bool (win x n)) H := by
  refine CallOk.body (F0 := [(0, .int .i64 x), (1, .int .i64 n)]) Tryz.func67 rfl Tryz.ntmps67 Tryz.results67 rfl (by kernel_rfl) rfl ?_
  (repeat' (first | refine PW.seq ?_ | refine PW.skip ?_ | refine PW.block ?_ | (refine PW.rg rfl fun K hK => ?_; simp (disch:=omega) only [go_sem, ↓reduceIte]) | (refine PW.draw mix (by kernel_rfl) fun K hK => ?_; simp (disch:=omega) only [go_sem, ↓reduceIte, reduceCtorEq, pappend, plen]) | (refine PW.drawg mix (by kernel_rfl) fun K hK => ?_; simp (disch:=omega) only [go_sem, ↓reduceIte, reduceCtorEq, pappend, plen]) | (refine PW.drawt [] [] mix (by kernel_rfl) fun K hK => ?_; simp (disch:=omega) only [go_sem, ↓reduceIte, reduceCtorEq, pappend, plen]) | ((first | refine VO_cond (fun h => ?_) (fun h => ?_) | refine VOd_cond (fun h => ?_) (fun h => ?_) | refine VOg_cond (fun h => ?_) (fun h => ?_) | refine VOh_cond (fun h => ?_) (fun h => ?_) | refine VOi_cond (fun h => ?_) (fun h => ?_) | refine And.intro (fun h => ?_) (fun h => ?_)) <;> (try simp only [decide_eq_true_eq, decide_eq_false_iff_not] at h) <;> simp (disch:=omega) only [go_sem, ↓reduceIte, h]) | (refine hK _ _ ?_; clear hK K) | (refine PW.cond (t := _) rfl (fun h => ?_) (fun h => ?_) <;> (try (cases h; done)) <;> (try simp only [Bool.not_eq_true', Bool.not_eq_false', decide_eq_true_eq, decide_eq_false_iff_not] at h))))
  all_goals ((refine PW.ret ⟨_, rfl, ?_⟩; first | refine .inl ⟨?_, rfl⟩ | refine Fin.base (.id' ?_ (.bool _)) | refine Fin.base (.id' ?_ (.int _ _))); (simp_all [win, slot] <;> first | rfl | omega | (rw [Bool.eq_iff_iff]; simp; done) | (rw [Bool.eq_iff_iff]; simp; omega)))
theorem win_ref (x : Int) (H : Heap) : CallOk Tryz.prog 84 [.int .i64 x] H (.bool (win x 4095)) H := by
  refine CallOk.body (F0 := [(0, .int .i64 x)]) Tryz.func84 rfl Tryz.ntmps84 Tryz.results84 rfl (by kernel_rfl) rfl ?_
  (repeat' (first | refine PW.seq ?_ | refine PW.skip ?_ | refine PW.block ?_ | (refine PW.rg rfl fun K hK => ?_; simp (disch:=omega) only [go_sem, ↓reduceIte]) | (refine PW.draw mix (by kernel_rfl) fun K hK => ?_; simp (disch:=omega) only [go_sem, ↓reduceIte, reduceCtorEq, pappend, plen]) | (refine PW.drawg mix (by kernel_rfl) fun K hK => ?_; simp (disch:=omega) only [go_sem, ↓reduceIte, reduceCtorEq, pappend, plen]) | (refine PW.drawt [] [] mix (by kernel_rfl) fun K hK => ?_; simp (disch:=omega) only [go_sem, ↓reduceIte, reduceCtorEq, pappend, plen]) | ((first | refine VO_cond (fun h => ?_) (fun h => ?_) | refine VOd_cond (fun h => ?_) (fun h => ?_) | refine VOg_cond (fun h => ?_) (fun h => ?_) | refine VOh_cond (fun h => ?_) (fun h => ?_) | refine VOi_cond (fun h => ?_) (fun h => ?_) | refine And.intro (fun h => ?_) (fun h => ?_)) <;> (try simp only [decide_eq_true_eq, decide_eq_false_iff_not] at h) <;> simp (disch:=omega) only [go_sem, ↓reduceIte, h]) | (refine hK _ _ ?_; clear hK K) | (refine PW.cond (t := _) rfl (fun h => ?_) (fun h => ?_) <;> (try (cases h; done)) <;> (try simp only [Bool.not_eq_true', Bool.not_eq_false', decide_eq_true_eq, decide_eq_false_iff_not] at h))))
  all_goals ((refine PW.ret ⟨_, rfl, ?_⟩; first | refine .inl ⟨?_, rfl⟩ | refine Fin.base (.id' ?_ (.bool _)) | refine Fin.base (.id' ?_ (.int _ _))); (simp_all [win, slot] <;> first | rfl | omega | (rw [Bool.eq_iff_iff]; simp; done) | (rw [Bool.eq_iff_iff]; simp; omega)))
def vrg (x y : Int) : Bool := win x 63 && win y 63
end Go.Proofs.YthmladiijdlgkaaGreat.Sc
