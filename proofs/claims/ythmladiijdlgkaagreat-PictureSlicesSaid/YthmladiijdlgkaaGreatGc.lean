/-
  Contracts of chapter 10: macroblocks, which blocks are coded.
-/
import Derived.Test.YthmladiijdlgkaaGreatGb
namespace Go.Proofs.YthmladiijdlgkaaGreat.Sc
set_option linter.all false
set_option linter.unusedVariables false
set_option linter.unusedSimpArgs false
open Pm Ty Go.RowKit
def zbk (lv : List Int) (n : Nat) : Bool := (lv.drop (n * 64)).take 64 == List.replicate 64 0
def cdl (m : Mb) : List Bool := [m.ca, m.cb, m.cc, m.cd, m.ce, m.cf]
def fbl (cs : List Bool) (lv : List Int) : Bool := (List.range 6).all fun n => flagAt cs n != zbk lv n
theorem fbl_no {cs : List Bool} {lv : List Int} {q : Nat} (h : q < 6) (hw : flagAt cs q = zbk lv q) : fbl cs lv = false := by
  cases hc : fbl cs lv with
  | false => rfl
  | true =>
    have := List.all_eq_true.1 hc q (List.mem_range.2 h)
    rw [hw] at this; simp at this
theorem fbl_yes {cs : List Bool} {lv : List Int} (h : ∀ q, q < 6 → flagAt cs q ≠ zbk lv q) : fbl cs lv = true := List.all_eq_true.2 fun q hq => by
  have := h q (List.mem_range.1 hq)
  simpa using this
theorem fbl_ok (m : Mb) (i : Nat) (H : Heap) (hi : H[i]? = some (mB m)) (hl : m.lv.length = 384) : CallOk Tryz.prog 66 [.ptr i 0 0] H (.bool (fbl (cdl m) m.lv)) H := by
  obtain ⟨k, ua, ub, fp, fd, va, vb, vc, vd, ve, vf, vg, vh, sa, sb, sc, sd, dl, ca, cb, cc, cd, ce, cf, lv⟩ := m
  simp only [mB, mbc, cdl] at hi hl ⊢
  have hdrop : ∀ n : Nat, List.drop (24 + n * 64) (.int .i64 k :: .bool ua :: .bool ub :: .bool fp :: .bool fd :: .int .i64 va :: .int .i64 vb :: .int .i64 vc :: .int .i64 vd :: .int .i64 ve :: .int .i64 vf :: .int .i64 vg :: .int .i64 vh :: .int .i64 sa :: .int .i64 sb :: .int .i64 sc :: .int .i64 sd :: .int .i64 dl :: .bool ca :: .bool cb :: .bool cc :: .bool cd :: .bool ce :: .bool cf :: is lv) = is (lv.drop (n * 64)) := fun n => by
    rw [show 24 + n * 64 = n * 64 + 24 by omega]
    simp only [List.drop_succ_cons]
    exact is_drop _ _
  obtain ⟨cs, hcs⟩ : ∃ cs, cs = [ca, cb, cc, cd, ce, cf] := ⟨_, rfl⟩
  have hcl : cs.length = 6 := by rw [hcs]; rfl
  refine CallOk.body (F0 := [(0, .ptr i 0 0)]) Tryz.func66 rfl Tryz.ntmps66 Tryz.results66 rfl (by kernel_rfl) rfl ?_
  (repeat refine PW.seq ?_); refine PW.rg rfl fun K hK => ?_; simp (disch:=omega) only [go_sem]; refine hK _ _ ?_; clear hK K; (repeat refine PW.seq ?_); refine PW.rg rfl fun K hK => ?_; simp (disch:=omega) only [go_sem, ↓reduceIte, hi]; refine hK _ _ ?_; clear hK K
  (repeat refine PW.seq ?_); refine PW.block (PW.loop ?_)
  rw [← hcs]
  suffices hloop : ∀ (n : Nat), n ≤ 6 → (∀ q, q < n → flagAt cs q ≠ zbk lv q) → PL Tryz.prog _ _ [(0, .ptr i 0 0), (8, .agg (fs cs)), (9, .int .i64 (n : Int))] H _ by
    exact PL.at [0, 8, 9] (hloop 0 (by omega) (fun q hq => by omega)) (by rw [hcs]; rfl) rfl
  clear hcs
  intro n hn hq
  induction hm : 6 - n using Nat.strongRecOn generalizing n with
  | _ m ih =>
    refine PL.round ?_; (repeat refine PW.seq ?_); refine PW.rg rfl fun K hK => ?_; simp (disch:=omega) only [go_sem, ↓reduceIte]; refine hK _ _ ?_; clear hK K
    (repeat refine PW.seq ?_); refine PW.cond (t := _) rfl (fun h => ?_) (fun h => ?_)
    · have h4 : n < 6 := by have := of_decide_eq_true h; omega
      have hbl := blk_len lv n hl h4
      have hcel := is_cell ((lv.drop (n * 64)).take 64)
      have hnx := ih (6 - (n + 1)) (by omega) (n + 1) (by omega)
      have hzb : zbk lv n = ((lv.drop (n * 64)).take 64 == List.replicate 64 0) := rfl
      refine PW.skip ?_
      (repeat refine PW.seq ?_); refine PW.block ?_
      (repeat refine PW.seq ?_); refine PW.rg rfl fun K hK => ?_; simp (disch:=omega) only [go_sem, fs_get]; refine hK _ _ ?_; clear hK K
      generalize hbb : (lv.drop (n * 64)).take 64 = bl at *
      have hpq : peqI (.int .i64) (is bl) [.int .i64 0, .int .i64 0, .int .i64 0, .int .i64 0, .int .i64 0, .int .i64 0, .int .i64 0, .int .i64 0, .int .i64 0, .int .i64 0, .int .i64 0, .int .i64 0, .int .i64 0, .int .i64 0, .int .i64 0, .int .i64 0, .int .i64 0, .int .i64 0, .int .i64 0, .int .i64 0, .int .i64 0, .int .i64 0, .int .i64 0, .int .i64 0, .int .i64 0, .int .i64 0, .int .i64 0, .int .i64 0, .int .i64 0, .int .i64 0, .int .i64 0, .int .i64 0, .int .i64 0, .int .i64 0, .int .i64 0, .int .i64 0, .int .i64 0, .int .i64 0, .int .i64 0, .int .i64 0, .int .i64 0, .int .i64 0, .int .i64 0, .int .i64 0, .int .i64 0, .int .i64 0, .int .i64 0, .int .i64 0, .int .i64 0, .int .i64 0, .int .i64 0, .int .i64 0, .int .i64 0, .int .i64 0, .int .i64 0, .int .i64 0, .int .i64 0, .int .i64 0, .int .i64 0, .int .i64 0, .int .i64 0, .int .i64 0, .int .i64 0, .int .i64 0] = some (bl == List.replicate 64 0) := peqI_is .i64 bl (List.replicate 64 0) (by rw [hbl]; simp)
      generalize (bl == List.replicate 64 0) = zz at *
      (repeat refine PW.seq ?_); refine PW.rg rfl fun K hK => ?_; simp (disch:=omega) only [go_sem, ↓reduceIte, hi, hdrop, is_take, hbb, is_len, hbl, hpq]
      refine hK _ _ ?_; clear hK K
      (repeat refine PW.seq ?_); refine PW.cond (t := _) rfl (fun h => ?_) (fun h => ?_)
      · have h6 : flagAt cs n = zz := by simpa using h
        (repeat refine PW.seq ?_); refine PW.rg rfl fun K hK => ?_; simp (disch:=omega) only [go_sem]; refine hK _ _ ?_; clear hK K
        refine PW.ret ⟨_, rfl, ?_⟩
        rw [fbl_no h4 (by rw [hzb]; exact h6)]
        exact Fin.now
      · have h6 : flagAt cs n ≠ zz := by simpa using h
        refine PW.skip ?_
        (repeat refine PW.seq ?_); refine PW.rg rfl fun K hK => ?_; simp (disch:=omega) only [go_sem, ↓reduceIte]; refine hK _ _ ?_; clear hK K
        refine PL.at [0, 8, 9] (hnx (fun q hq' => ?_) rfl) rfl rfl
        by_cases e : q = n
        · rw [e, hzb]; exact h6
        · exact hq q (by omega)
    · have h4 : n = 6 := by have := of_decide_eq_false h; omega
      subst h4
      refine PW.exit ?_
      (repeat refine PW.seq ?_); refine PW.rg rfl fun K hK => ?_; simp (disch:=omega) only [go_sem]; refine hK _ _ ?_; clear hK K
      refine PW.ret ⟨_, rfl, ?_⟩
      rw [fbl_yes hq]
      exact Fin.now
end Go.Proofs.YthmladiijdlgkaaGreat.Sc
