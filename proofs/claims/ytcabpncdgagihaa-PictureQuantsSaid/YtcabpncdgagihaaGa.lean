/-
  Contracts of chapter 10: macroblocks, the small functions.
-/
import Derived.Test.YtcabpncdgagihaaBs
namespace Go.Proofs.Ytcabpncdgagihaa.Sc
set_option linter.all false
set_option linter.unusedVariables false
set_option linter.unusedSimpArgs false
open Pm Ty Go.RowKit

/-- A context. -/
structure Cx where
  t : Int
  s : Int
  i : Bool
  n : Bool
def cxc (c : Cx) : List PV := [.int .i64 c.t, .int .i64 c.s, .bool c.i, .bool c.n]
def vcx (c : Cx) : Bool := decide (1 ≤ c.t) && (decide (c.t ≤ 3) && (decide (1 ≤ c.s) && (decide (c.s ≤ 3) && (if c.s = 3 then !c.n else c.i))))
def fcx (c : Cx) : Bool := decide (c.s ≠ 3)
def bcx (c : Cx) : Bool := c.i && decide (c.s = 3)
/-- A macroblock. -/
structure Mb where
  k : Int
  ua : Bool
  ub : Bool
  fp : Bool
  fd : Bool
  va : Int
  vb : Int
  vc : Int
  vd : Int
  ve : Int
  vf : Int
  vg : Int
  vh : Int
  sa : Int
  sb : Int
  sc : Int
  sd : Int
  dl : Int
  ca : Bool
  cb : Bool
  cc : Bool
  cd : Bool
  ce : Bool
  cf : Bool
  lv : List Int
def mbc (m : Mb) : List PV := .int .i64 m.k :: .bool m.ua :: .bool m.ub :: .bool m.fp :: .bool m.fd :: .int .i64 m.va :: .int .i64 m.vb :: .int .i64 m.vc :: .int .i64 m.vd :: .int .i64 m.ve :: .int .i64 m.vf :: .int .i64 m.vg :: .int .i64 m.vh :: .int .i64 m.sa :: .int .i64 m.sb :: .int .i64 m.sc :: .int .i64 m.sd :: .int .i64 m.dl :: .bool m.ca :: .bool m.cb :: .bool m.cc :: .bool m.cd :: .bool m.ce :: .bool m.cf :: is m.lv
/-- Its block in memory. -/
def mB (m : Mb) : Blk := ⟨49, 0, mbc m⟩
def anyC (m : Mb) : Bool := m.ca || (m.cb || (m.cc || (m.cd || (m.ce || m.cf))))
def hlM (m : Mb) : Bool := decide (m.k = 1) || anyC m
def win (x n : Int) : Bool := decide (-n ≤ x) && decide (x ≤ n)
theorem vcx_ok (c : Cx) (H : Heap) : CallOk Try.prog 54 [.agg (cxc c)] H (.bool (vcx c)) H := by
  obtain ⟨t, s, i, n⟩ := c
  refine CallOk.body (F0 := [(0, .agg [.int .i64 t, .int .i64 s, .bool i, .bool n])]) Try.func54 rfl Try.ntmps54 Try.results54 rfl (by kernel_rfl) rfl ?_
  (repeat' (first | refine PW.seq ?_ | refine PW.skip ?_ | refine PW.block ?_ | (refine PW.rg rfl fun K hK => ?_; simp (maxSteps := 3000000) (disch := omega) only [go_sem, ↓reduceIte, reduceCtorEq, pappend, plen]) | (refine PW.draw mix (by kernel_rfl) fun K hK => ?_; simp (maxSteps := 3000000) (disch := omega) only [go_sem, ↓reduceIte, reduceCtorEq, pappend, plen]) | (refine PW.drawg mix (by kernel_rfl) fun K hK => ?_; simp (maxSteps := 3000000) (disch := omega) only [go_sem, ↓reduceIte, reduceCtorEq, pappend, plen]) | (refine PW.drawt [] [] mix (by kernel_rfl) fun K hK => ?_; simp (maxSteps := 3000000) (disch := omega) only [go_sem, ↓reduceIte, reduceCtorEq, pappend, plen]) | ((first | refine VO_cond (fun h => ?_) (fun h => ?_) | refine VOd_cond (fun h => ?_) (fun h => ?_) | refine VOg_cond (fun h => ?_) (fun h => ?_) | refine VOh_cond (fun h => ?_) (fun h => ?_) | refine VOi_cond (fun h => ?_) (fun h => ?_) | refine And.intro (fun h => ?_) (fun h => ?_)) <;> (try simp only [Bool.not_eq_true', Bool.not_eq_false', decide_eq_true_eq, decide_eq_false_iff_not] at h) <;> simp (maxSteps := 3000000) (disch := omega) only [go_sem, ↓reduceIte, reduceCtorEq, pappend, plen, h]) | (refine hK _ _ ?_; clear hK K) | (refine PW.cond (t := _) rfl (fun h => ?_) (fun h => ?_) <;> (try (cases h; done)) <;> (try simp only [Bool.not_eq_true', Bool.not_eq_false', decide_eq_true_eq, decide_eq_false_iff_not] at h))))
  all_goals ((refine PW.ret ⟨_, rfl, ?_⟩; first | refine .inl ⟨?_, rfl⟩ | refine Fin.base (.id' ?_ (.bool _)) | refine Fin.base (.id' ?_ (.int _ _))); (simp_all [vcx, slot, Nat.beq] <;> first | rfl | omega | (rw [Bool.eq_iff_iff]; simp; done) | (rw [Bool.eq_iff_iff]; simp; omega)))
theorem vcx_ref (c : Cx) (H : Heap) : CallOk Try.prog 76 [.agg (cxc c)] H (.bool (vcx c)) H := by
  obtain ⟨t, s, i, n⟩ := c
  refine CallOk.body (F0 := [(0, .agg [.int .i64 t, .int .i64 s, .bool i, .bool n])]) Try.func76 rfl Try.ntmps76 Try.results76 rfl (by kernel_rfl) rfl ?_
  (repeat' (first | refine PW.seq ?_ | refine PW.skip ?_ | refine PW.block ?_ | (refine PW.rg rfl fun K hK => ?_; simp (maxSteps := 3000000) (disch := omega) only [go_sem, ↓reduceIte, reduceCtorEq, pappend, plen]) | (refine PW.draw mix (by kernel_rfl) fun K hK => ?_; simp (maxSteps := 3000000) (disch := omega) only [go_sem, ↓reduceIte, reduceCtorEq, pappend, plen]) | (refine PW.drawg mix (by kernel_rfl) fun K hK => ?_; simp (maxSteps := 3000000) (disch := omega) only [go_sem, ↓reduceIte, reduceCtorEq, pappend, plen]) | (refine PW.drawt [] [] mix (by kernel_rfl) fun K hK => ?_; simp (maxSteps := 3000000) (disch := omega) only [go_sem, ↓reduceIte, reduceCtorEq, pappend, plen]) | ((first | refine VO_cond (fun h => ?_) (fun h => ?_) | refine VOd_cond (fun h => ?_) (fun h => ?_) | refine VOg_cond (fun h => ?_) (fun h => ?_) | refine VOh_cond (fun h => ?_) (fun h => ?_) | refine VOi_cond (fun h => ?_) (fun h => ?_) | refine And.intro (fun h => ?_) (fun h => ?_)) <;> (try simp only [Bool.not_eq_true', Bool.not_eq_false', decide_eq_true_eq, decide_eq_false_iff_not] at h) <;> simp (maxSteps := 3000000) (disch := omega) only [go_sem, ↓reduceIte, reduceCtorEq, pappend, plen, h]) | (refine hK _ _ ?_; clear hK K) | (refine PW.cond (t := _) rfl (fun h => ?_) (fun h => ?_) <;> (try (cases h; done)) <;> (try simp only [Bool.not_eq_true', Bool.not_eq_false', decide_eq_true_eq, decide_eq_false_iff_not] at h))))
  all_goals ((refine PW.ret ⟨_, rfl, ?_⟩; first | refine .inl ⟨?_, rfl⟩ | refine Fin.base (.id' ?_ (.bool _)) | refine Fin.base (.id' ?_ (.int _ _))); cases i <;> cases n <;> (simp_all [vcx, slot, Nat.beq] <;> first | rfl | omega | (rw [Bool.eq_iff_iff]; simp; done) | (rw [Bool.eq_iff_iff]; simp; omega)))
theorem fcx_ok (c : Cx) (H : Heap) : CallOk Try.prog 101 [.agg (cxc c)] H (.bool (fcx c)) H := by
  obtain ⟨t, s, i, n⟩ := c
  refine CallOk.body (F0 := [(0, .agg [.int .i64 t, .int .i64 s, .bool i, .bool n])]) Try.func101 rfl Try.ntmps101 Try.results101 rfl (by kernel_rfl) rfl ?_
  (repeat' (first | refine PW.seq ?_ | refine PW.skip ?_ | refine PW.block ?_ | (refine PW.rg rfl fun K hK => ?_; simp (maxSteps := 3000000) (disch := omega) only [go_sem, ↓reduceIte, reduceCtorEq, pappend, plen]) | (refine PW.draw mix (by kernel_rfl) fun K hK => ?_; simp (maxSteps := 3000000) (disch := omega) only [go_sem, ↓reduceIte, reduceCtorEq, pappend, plen]) | (refine PW.drawg mix (by kernel_rfl) fun K hK => ?_; simp (maxSteps := 3000000) (disch := omega) only [go_sem, ↓reduceIte, reduceCtorEq, pappend, plen]) | (refine PW.drawt [] [] mix (by kernel_rfl) fun K hK => ?_; simp (maxSteps := 3000000) (disch := omega) only [go_sem, ↓reduceIte, reduceCtorEq, pappend, plen]) | ((first | refine VO_cond (fun h => ?_) (fun h => ?_) | refine VOd_cond (fun h => ?_) (fun h => ?_) | refine VOg_cond (fun h => ?_) (fun h => ?_) | refine VOh_cond (fun h => ?_) (fun h => ?_) | refine VOi_cond (fun h => ?_) (fun h => ?_) | refine And.intro (fun h => ?_) (fun h => ?_)) <;> (try simp only [Bool.not_eq_true', Bool.not_eq_false', decide_eq_true_eq, decide_eq_false_iff_not] at h) <;> simp (maxSteps := 3000000) (disch := omega) only [go_sem, ↓reduceIte, reduceCtorEq, pappend, plen, h]) | (refine hK _ _ ?_; clear hK K) | (refine PW.cond (t := _) rfl (fun h => ?_) (fun h => ?_) <;> (try (cases h; done)) <;> (try simp only [Bool.not_eq_true', Bool.not_eq_false', decide_eq_true_eq, decide_eq_false_iff_not] at h))))
  all_goals ((refine PW.ret ⟨_, rfl, ?_⟩; first | refine .inl ⟨?_, rfl⟩ | refine Fin.base (.id' ?_ (.bool _)) | refine Fin.base (.id' ?_ (.int _ _))); (simp_all [fcx, slot, Nat.beq] <;> first | rfl | omega | (rw [Bool.eq_iff_iff]; simp; done) | (rw [Bool.eq_iff_iff]; simp; omega)))
theorem fcx_ref (c : Cx) (H : Heap) : CallOk Try.prog 39 [.agg (cxc c)] H (.bool (fcx c)) H := by
  obtain ⟨t, s, i, n⟩ := c
  refine CallOk.body (F0 := [(0, .agg [.int .i64 t, .int .i64 s, .bool i, .bool n])]) Try.func39 rfl Try.ntmps39 Try.results39 rfl (by kernel_rfl) rfl ?_
  (repeat' (first | refine PW.seq ?_ | refine PW.skip ?_ | refine PW.block ?_ | (refine PW.rg rfl fun K hK => ?_; simp (maxSteps := 3000000) (disch := omega) only [go_sem, ↓reduceIte, reduceCtorEq, pappend, plen]) | (refine PW.draw mix (by kernel_rfl) fun K hK => ?_; simp (maxSteps := 3000000) (disch := omega) only [go_sem, ↓reduceIte, reduceCtorEq, pappend, plen]) | (refine PW.drawg mix (by kernel_rfl) fun K hK => ?_; simp (maxSteps := 3000000) (disch := omega) only [go_sem, ↓reduceIte, reduceCtorEq, pappend, plen]) | (refine PW.drawt [] [] mix (by kernel_rfl) fun K hK => ?_; simp (maxSteps := 3000000) (disch := omega) only [go_sem, ↓reduceIte, reduceCtorEq, pappend, plen]) | ((first | refine VO_cond (fun h => ?_) (fun h => ?_) | refine VOd_cond (fun h => ?_) (fun h => ?_) | refine VOg_cond (fun h => ?_) (fun h => ?_) | refine VOh_cond (fun h => ?_) (fun h => ?_) | refine VOi_cond (fun h => ?_) (fun h => ?_) | refine And.intro (fun h => ?_) (fun h => ?_)) <;> (try simp only [Bool.not_eq_true', Bool.not_eq_false', decide_eq_true_eq, decide_eq_false_iff_not] at h) <;> simp (maxSteps := 3000000) (disch := omega) only [go_sem, ↓reduceIte, reduceCtorEq, pappend, plen, h]) | (refine hK _ _ ?_; clear hK K) | (refine PW.cond (t := _) rfl (fun h => ?_) (fun h => ?_) <;> (try (cases h; done)) <;> (try simp only [Bool.not_eq_true', Bool.not_eq_false', decide_eq_true_eq, decide_eq_false_iff_not] at h))))
  all_goals ((refine PW.ret ⟨_, rfl, ?_⟩; first | refine .inl ⟨?_, rfl⟩ | refine Fin.base (.id' ?_ (.bool _)) | refine Fin.base (.id' ?_ (.int _ _))); (simp_all [fcx, slot, Nat.beq] <;> first | rfl | omega | (rw [Bool.eq_iff_iff]; simp; done) | (rw [Bool.eq_iff_iff]; simp; omega)))
theorem bcx_ok (c : Cx) (H : Heap) : CallOk Try.prog 69 [.agg (cxc c)] H (.bool (bcx c)) H := by
  obtain ⟨t, s, i, n⟩ := c
  refine CallOk.body (F0 := [(0, .agg [.int .i64 t, .int .i64 s, .bool i, .bool n])]) Try.func69 rfl Try.ntmps69 Try.results69 rfl (by kernel_rfl) rfl ?_
  (repeat' (first | refine PW.seq ?_ | refine PW.skip ?_ | refine PW.block ?_ | (refine PW.rg rfl fun K hK => ?_; simp (maxSteps := 3000000) (disch := omega) only [go_sem, ↓reduceIte, reduceCtorEq, pappend, plen]) | (refine PW.draw mix (by kernel_rfl) fun K hK => ?_; simp (maxSteps := 3000000) (disch := omega) only [go_sem, ↓reduceIte, reduceCtorEq, pappend, plen]) | (refine PW.drawg mix (by kernel_rfl) fun K hK => ?_; simp (maxSteps := 3000000) (disch := omega) only [go_sem, ↓reduceIte, reduceCtorEq, pappend, plen]) | (refine PW.drawt [] [] mix (by kernel_rfl) fun K hK => ?_; simp (maxSteps := 3000000) (disch := omega) only [go_sem, ↓reduceIte, reduceCtorEq, pappend, plen]) | ((first | refine VO_cond (fun h => ?_) (fun h => ?_) | refine VOd_cond (fun h => ?_) (fun h => ?_) | refine VOg_cond (fun h => ?_) (fun h => ?_) | refine VOh_cond (fun h => ?_) (fun h => ?_) | refine VOi_cond (fun h => ?_) (fun h => ?_) | refine And.intro (fun h => ?_) (fun h => ?_)) <;> (try simp only [Bool.not_eq_true', Bool.not_eq_false', decide_eq_true_eq, decide_eq_false_iff_not] at h) <;> simp (maxSteps := 3000000) (disch := omega) only [go_sem, ↓reduceIte, reduceCtorEq, pappend, plen, h]) | (refine hK _ _ ?_; clear hK K) | (refine PW.cond (t := _) rfl (fun h => ?_) (fun h => ?_) <;> (try (cases h; done)) <;> (try simp only [Bool.not_eq_true', Bool.not_eq_false', decide_eq_true_eq, decide_eq_false_iff_not] at h))))
  all_goals ((refine PW.ret ⟨_, rfl, ?_⟩; first | refine .inl ⟨?_, rfl⟩ | refine Fin.base (.id' ?_ (.bool _)) | refine Fin.base (.id' ?_ (.int _ _))); (simp_all [bcx, slot, Nat.beq] <;> first | rfl | omega | (rw [Bool.eq_iff_iff]; simp; done) | (rw [Bool.eq_iff_iff]; simp; omega)))
theorem bcx_ref (c : Cx) (H : Heap) : CallOk Try.prog 37 [.agg (cxc c)] H (.bool (bcx c)) H := by
  obtain ⟨t, s, i, n⟩ := c
  refine CallOk.body (F0 := [(0, .agg [.int .i64 t, .int .i64 s, .bool i, .bool n])]) Try.func37 rfl Try.ntmps37 Try.results37 rfl (by kernel_rfl) rfl ?_
  (repeat' (first | refine PW.seq ?_ | refine PW.skip ?_ | refine PW.block ?_ | (refine PW.rg rfl fun K hK => ?_; simp (maxSteps := 3000000) (disch := omega) only [go_sem, ↓reduceIte, reduceCtorEq, pappend, plen]) | (refine PW.draw mix (by kernel_rfl) fun K hK => ?_; simp (maxSteps := 3000000) (disch := omega) only [go_sem, ↓reduceIte, reduceCtorEq, pappend, plen]) | (refine PW.drawg mix (by kernel_rfl) fun K hK => ?_; simp (maxSteps := 3000000) (disch := omega) only [go_sem, ↓reduceIte, reduceCtorEq, pappend, plen]) | (refine PW.drawt [] [] mix (by kernel_rfl) fun K hK => ?_; simp (maxSteps := 3000000) (disch := omega) only [go_sem, ↓reduceIte, reduceCtorEq, pappend, plen]) | ((first | refine VO_cond (fun h => ?_) (fun h => ?_) | refine VOd_cond (fun h => ?_) (fun h => ?_) | refine VOg_cond (fun h => ?_) (fun h => ?_) | refine VOh_cond (fun h => ?_) (fun h => ?_) | refine VOi_cond (fun h => ?_) (fun h => ?_) | refine And.intro (fun h => ?_) (fun h => ?_)) <;> (try simp only [Bool.not_eq_true', Bool.not_eq_false', decide_eq_true_eq, decide_eq_false_iff_not] at h) <;> simp (maxSteps := 3000000) (disch := omega) only [go_sem, ↓reduceIte, reduceCtorEq, pappend, plen, h]) | (refine hK _ _ ?_; clear hK K) | (refine PW.cond (t := _) rfl (fun h => ?_) (fun h => ?_) <;> (try (cases h; done)) <;> (try simp only [Bool.not_eq_true', Bool.not_eq_false', decide_eq_true_eq, decide_eq_false_iff_not] at h))))
  all_goals ((refine PW.ret ⟨_, rfl, ?_⟩; first | refine .inl ⟨?_, rfl⟩ | refine Fin.base (.id' ?_ (.bool _)) | refine Fin.base (.id' ?_ (.int _ _))); (simp_all [bcx, slot, Nat.beq] <;> first | rfl | omega | (rw [Bool.eq_iff_iff]; simp; done) | (rw [Bool.eq_iff_iff]; simp; omega)))
theorem win_ok (x n : Int) (H : Heap) (hn : 0 ≤ n ∧ n ≤ 10000) : CallOk Try.prog 65 [.int .i64 x, .int .i64 n] H (.bool (win x n)) H := by
  refine CallOk.body (F0 := [(0, .int .i64 x), (1, .int .i64 n)]) Try.func65 rfl Try.ntmps65 Try.results65 rfl (by kernel_rfl) rfl ?_
  (repeat' (first | refine PW.seq ?_ | refine PW.skip ?_ | refine PW.block ?_ | (refine PW.rg rfl fun K hK => ?_; simp (maxSteps := 3000000) (disch := omega) only [go_sem, ↓reduceIte, reduceCtorEq, pappend, plen]) | (refine PW.draw mix (by kernel_rfl) fun K hK => ?_; simp (maxSteps := 3000000) (disch := omega) only [go_sem, ↓reduceIte, reduceCtorEq, pappend, plen]) | (refine PW.drawg mix (by kernel_rfl) fun K hK => ?_; simp (maxSteps := 3000000) (disch := omega) only [go_sem, ↓reduceIte, reduceCtorEq, pappend, plen]) | (refine PW.drawt [] [] mix (by kernel_rfl) fun K hK => ?_; simp (maxSteps := 3000000) (disch := omega) only [go_sem, ↓reduceIte, reduceCtorEq, pappend, plen]) | ((first | refine VO_cond (fun h => ?_) (fun h => ?_) | refine VOd_cond (fun h => ?_) (fun h => ?_) | refine VOg_cond (fun h => ?_) (fun h => ?_) | refine VOh_cond (fun h => ?_) (fun h => ?_) | refine VOi_cond (fun h => ?_) (fun h => ?_) | refine And.intro (fun h => ?_) (fun h => ?_)) <;> (try simp only [Bool.not_eq_true', Bool.not_eq_false', decide_eq_true_eq, decide_eq_false_iff_not] at h) <;> simp (maxSteps := 3000000) (disch := omega) only [go_sem, ↓reduceIte, reduceCtorEq, pappend, plen, h]) | (refine hK _ _ ?_; clear hK K) | (refine PW.cond (t := _) rfl (fun h => ?_) (fun h => ?_) <;> (try (cases h; done)) <;> (try simp only [Bool.not_eq_true', Bool.not_eq_false', decide_eq_true_eq, decide_eq_false_iff_not] at h))))
  all_goals ((refine PW.ret ⟨_, rfl, ?_⟩; first | refine .inl ⟨?_, rfl⟩ | refine Fin.base (.id' ?_ (.bool _)) | refine Fin.base (.id' ?_ (.int _ _))); (simp_all [win, slot, Nat.beq] <;> first | rfl | omega | (rw [Bool.eq_iff_iff]; simp; done) | (rw [Bool.eq_iff_iff]; simp; omega)))
theorem win_ref (x : Int) (H : Heap) : CallOk Try.prog 80 [.int .i64 x] H (.bool (win x 4095)) H := by
  refine CallOk.body (F0 := [(0, .int .i64 x)]) Try.func80 rfl Try.ntmps80 Try.results80 rfl (by kernel_rfl) rfl ?_
  (repeat' (first | refine PW.seq ?_ | refine PW.skip ?_ | refine PW.block ?_ | (refine PW.rg rfl fun K hK => ?_; simp (maxSteps := 3000000) (disch := omega) only [go_sem, ↓reduceIte, reduceCtorEq, pappend, plen]) | (refine PW.draw mix (by kernel_rfl) fun K hK => ?_; simp (maxSteps := 3000000) (disch := omega) only [go_sem, ↓reduceIte, reduceCtorEq, pappend, plen]) | (refine PW.drawg mix (by kernel_rfl) fun K hK => ?_; simp (maxSteps := 3000000) (disch := omega) only [go_sem, ↓reduceIte, reduceCtorEq, pappend, plen]) | (refine PW.drawt [] [] mix (by kernel_rfl) fun K hK => ?_; simp (maxSteps := 3000000) (disch := omega) only [go_sem, ↓reduceIte, reduceCtorEq, pappend, plen]) | ((first | refine VO_cond (fun h => ?_) (fun h => ?_) | refine VOd_cond (fun h => ?_) (fun h => ?_) | refine VOg_cond (fun h => ?_) (fun h => ?_) | refine VOh_cond (fun h => ?_) (fun h => ?_) | refine VOi_cond (fun h => ?_) (fun h => ?_) | refine And.intro (fun h => ?_) (fun h => ?_)) <;> (try simp only [Bool.not_eq_true', Bool.not_eq_false', decide_eq_true_eq, decide_eq_false_iff_not] at h) <;> simp (maxSteps := 3000000) (disch := omega) only [go_sem, ↓reduceIte, reduceCtorEq, pappend, plen, h]) | (refine hK _ _ ?_; clear hK K) | (refine PW.cond (t := _) rfl (fun h => ?_) (fun h => ?_) <;> (try (cases h; done)) <;> (try simp only [Bool.not_eq_true', Bool.not_eq_false', decide_eq_true_eq, decide_eq_false_iff_not] at h))))
  all_goals ((refine PW.ret ⟨_, rfl, ?_⟩; first | refine .inl ⟨?_, rfl⟩ | refine Fin.base (.id' ?_ (.bool _)) | refine Fin.base (.id' ?_ (.int _ _))); (simp_all [win, slot, Nat.beq] <;> first | rfl | omega | (rw [Bool.eq_iff_iff]; simp; done) | (rw [Bool.eq_iff_iff]; simp; omega)))
def vrg (x y : Int) : Bool := win x 63 && win y 63

end Go.Proofs.Ytcabpncdgagihaa.Sc
