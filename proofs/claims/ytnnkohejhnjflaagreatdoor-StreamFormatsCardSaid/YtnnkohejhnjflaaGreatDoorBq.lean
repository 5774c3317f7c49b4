/-
  Contracts of the reference of chapter 2: the reader.
-/
import Derived.Test.YtnnkohejhnjflaaGreatDoorBv
namespace Go.Proofs.YtnnkohejhnjflaaGreatDoor.Sc
set_option linter.all false
set_option linter.unusedVariables false
set_option linter.unusedSimpArgs false
open Pm Ty Go.RowKit

/-- The reference's reader. -/
def rR (j v n a : Nat) : Blk := ⟨147, 0, [.msl j v 0 n 1 true, .int .i64 (a : Int)]⟩
def rB (q : List UInt8) (v : Nat) : Blk := ⟨5, v, bs (zb (bl q))⟩

theorem rleft_ref (i j v : Nat) (q : List UInt8) (n a : Nat) (H : Heap) (hA : H[i]? = some (rR j v n a)) (hB : H[j]? = some (rB q v)) (ha : a ≤ n) (hn : n ≤ 1000000000) : CallOk Tryz.prog 54 [.ptr i 0 0] H (.int .i64 ((n - a : Nat) : Int)) H := by
  have e : (n : Int) - (a : Int) = ((n - a : Nat) : Int) := by omega
  refine CallOk.body (F0 := [(0, .ptr i 0 0)]) Tryz.func54 rfl Tryz.ntmps54 Tryz.results54 rfl (by kernel_rfl) rfl ?_
  (repeat refine PW.seq ?_); refine PW.rg rfl fun K hK => ?_; simp (maxSteps := 3000000) (disch := omega) only [go_sem, ↓reduceIte, reduceCtorEq, pappend, plen]; refine hK _ _ ?_; clear hK K
  (repeat refine PW.seq ?_); refine PW.draw mix (by kernel_rfl) fun K hK => ?_; simp (maxSteps := 3000000) (disch := omega) only [go_sem, ↓reduceIte, reduceCtorEq, pappend, plen, hA, hB, rR, rB, e]; refine hK _ _ ?_; clear hK K
  exact PW.ret ⟨_, rfl, Fin.now⟩

theorem rtake_ref (i j v : Nat) (q : List UInt8) (n a m : Nat) (H : Heap) (hA : H[i]? = some (rR j v n a)) (hB : H[j]? = some (rB q v)) (hne : i ≠ j) (ha : a + m ≤ n) (hn : n ≤ 8 * q.length) (hq : q.length ≤ 100000000) (hm : m ≤ 32) :
    CallOk Tryz.prog 79 [.ptr i 0 0, .int .i64 (m : Int)] H (.tup [.int .u32 (vl q a m : Int), .int .i64 0]) (H.set i (rR j v n (a + m))) := by
  have hi := (List.getElem?_eq_some_iff.1 hA).1
  have hlf := rleft_ref i j v q n a H hA hB (by omega) (by omega)
  refine CallOk.body (F0 := [(0, .ptr i 0 0), (1, .int .i64 (m : Int))]) Tryz.func79 rfl Tryz.ntmps79 Tryz.results79 rfl (by kernel_rfl) rfl ?_
  (repeat refine PW.seq ?_); refine PW.rg rfl fun K hK => ?_; simp (maxSteps := 3000000) (disch := omega) only [go_sem, ↓reduceIte, reduceCtorEq, pappend, plen]; refine hK _ _ ?_; clear hK K
  (repeat refine PW.seq ?_); refine PW.rg rfl fun K hK => ?_; simp (maxSteps := 3000000) (disch := omega) only [go_sem, ↓reduceIte, reduceCtorEq, pappend, plen]; refine hK _ _ ?_; clear hK K
  (repeat refine PW.seq ?_); refine PW.cond (t := _) rfl (fun h => ?_) (fun h => ?_)
  · cases h
  refine PW.skip ?_
  (repeat refine PW.seq ?_); refine PW.rg rfl fun K hK => ?_; simp (maxSteps := 3000000) (disch := omega) only [go_sem, ↓reduceIte, reduceCtorEq, pappend, plen]; refine VCx.call (hlf) rfl ?_; simp (maxSteps := 3000000) (disch := omega) only [go_sem, ↓reduceIte, reduceCtorEq, pappend, plen]; refine hK _ _ ?_; clear hK K
  (repeat refine PW.seq ?_); refine PW.cond (t := _) rfl (fun h => ?_) (fun h => ?_)
  · cases h
  refine PW.skip ?_
  (repeat refine PW.seq ?_); refine PW.rg rfl fun K hK => ?_; simp (maxSteps := 3000000) (disch := omega) only [go_sem, ↓reduceIte, reduceCtorEq, pappend, plen]; refine hK _ _ ?_; clear hK K
  (repeat refine PW.seq ?_); refine PW.rg rfl fun K hK => ?_; simp (maxSteps := 3000000) (disch := omega) only [go_sem, ↓reduceIte, reduceCtorEq, pappend, plen]; refine hK _ _ ?_; clear hK K
  (repeat refine PW.seq ?_); refine PW.block (PW.loop ?_)
  suffices hloop : ∀ (k : Nat), k ≤ m → PL Tryz.prog _ _ [(0, .ptr i 0 0), (1, .int .i64 (m : Int)), (6, .int .u32 (vl q a k : Int)), (7, .int .i64 (k : Int))] H _ by
    exact PL.at [0, 1, 6, 7] (hloop 0 (Nat.zero_le _)) rfl rfl
  intro k hk
  induction hmk : m - k using Nat.strongRecOn generalizing k with
  | _ r ih =>
    refine PL.round ?_; (repeat refine PW.seq ?_); refine PW.rg rfl fun K hK => ?_; simp (maxSteps := 3000000) (disch := omega) only [go_sem, ↓reduceIte, reduceCtorEq, pappend, plen]; refine hK _ _ ?_; clear hK K
    (repeat refine PW.seq ?_); refine PW.cond (t := _) rfl (fun h => ?_) (fun h => ?_)
    · have h4 : k < m := by have := of_decide_eq_true h; omega
      have hnext := ih (m - (k + 1)) (by omega) (k + 1) (by omega) rfl
      have hul := ubit_lt q (a + k)
      have hvl := vl_lt q a k
      have hvl2 : 2 * vl q a k < 4294967296 := by
        have : 2 ^ k ≤ 2 ^ 31 := Nat.pow_le_pow_right (by omega) (by omega)
        omega
      have e4 : (a : Int) + (k : Int) = ((a + k : Nat) : Int) := by omega
      have hbl := bl_len q
      refine PW.skip ?_; (repeat refine PW.seq ?_); refine PW.block ?_
      (repeat refine PW.seq ?_); refine PW.draw mix (by kernel_rfl) fun K hK => ?_; simp (maxSteps := 3000000) (disch := omega) only [go_sem, ↓reduceIte, reduceCtorEq, pappend, plen, hA, hB, rR, rB, e4, length_bs, zb_len, hbl, bl_get, pshl1_u32, por_u32]; refine hK _ _ ?_; clear hK K
      (repeat refine PW.seq ?_); refine PW.rg rfl fun K hK => ?_; simp (maxSteps := 3000000) (disch := omega) only [go_sem, ↓reduceIte, reduceCtorEq, pappend, plen]; refine hK _ _ ?_; clear hK K
      exact PL.at [0, 1, 6, 7] hnext rfl rfl
    · have h4 : k = m := by have := of_decide_eq_false h; omega
      subst h4
      have e4 : (a : Int) + (k : Int) = ((a + k : Nat) : Int) := by omega
      refine PW.exit ?_
      (repeat refine PW.seq ?_); refine PW.rg rfl fun K hK => ?_; simp (maxSteps := 3000000) (disch := omega) only [go_sem, ↓reduceIte, reduceCtorEq, pappend, plen, hA, rR, e4]; refine hK _ _ ?_; clear hK K
      (repeat refine PW.seq ?_); refine PW.rg rfl fun K hK => ?_; simp (maxSteps := 3000000) (disch := omega) only [go_sem, ↓reduceIte, reduceCtorEq, pappend, plen]; refine hK _ _ ?_; clear hK K
      exact PW.ret ⟨_, rfl, Fin.now⟩
theorem rtake_shr (i j v : Nat) (q : List UInt8) (n a m : Nat) (H : Heap) (hA : H[i]? = some (rR j v n a)) (hB : H[j]? = some (rB q v)) (ha : a ≤ n) (hn : n ≤ 1000000000) (hm : m ≤ 32) (hs : n - a < m) :
    CallOk Tryz.prog 79 [.ptr i 0 0, .int .i64 (m : Int)] H (.tup [.int .u32 0, .int .i64 4]) H := by
  have hlf := rleft_ref i j v q n a H hA hB ha hn
  have d1 : decide (((n - a : Nat) : Int) < (m : Int)) = true := decide_eq_true (by omega)
  refine CallOk.body (F0 := [(0, .ptr i 0 0), (1, .int .i64 (m : Int))]) Tryz.func79 rfl Tryz.ntmps79 Tryz.results79 rfl (by kernel_rfl) rfl ?_
  (repeat refine PW.seq ?_); refine PW.rg rfl fun K hK => ?_; simp (maxSteps := 3000000) (disch := omega) only [go_sem, ↓reduceIte, reduceCtorEq, pappend, plen]; refine hK _ _ ?_; clear hK K
  (repeat refine PW.seq ?_); refine PW.rg rfl fun K hK => ?_; simp (maxSteps := 3000000) (disch := omega) only [go_sem, ↓reduceIte, reduceCtorEq, pappend, plen]; refine hK _ _ ?_; clear hK K
  (repeat refine PW.seq ?_); refine PW.cond (t := _) rfl (fun h => ?_) (fun h => ?_)
  · cases h
  refine PW.skip ?_
  (repeat refine PW.seq ?_); refine PW.rg rfl fun K hK => ?_; simp (maxSteps := 3000000) (disch := omega) only [go_sem, ↓reduceIte, reduceCtorEq, pappend, plen, d1]; refine VCx.call (hlf) rfl ?_; simp (maxSteps := 3000000) (disch := omega) only [go_sem, ↓reduceIte, reduceCtorEq, pappend, plen, d1]; refine hK _ _ ?_; clear hK K
  (repeat refine PW.seq ?_); refine PW.cond (t := _) rfl (fun h => ?_) (fun h => ?_)
  rotate_left
  · cases h
  (repeat refine PW.seq ?_); refine PW.rg rfl fun K hK => ?_; simp (maxSteps := 3000000) (disch := omega) only [go_sem, ↓reduceIte, reduceCtorEq, pappend, plen]; refine hK _ _ ?_; clear hK K
  exact PW.ret ⟨_, rfl, Fin.now⟩

end Go.Proofs.YtnnkohejhnjflaaGreatDoor.Sc
