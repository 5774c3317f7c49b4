/-
  Contracts of package bitio: the reader.
-/
import Derived.Test.YtnnkohejhnjflaaGreatDoorBy
namespace Go.Proofs.YtnnkohejhnjflaaGreatDoor.Sc
set_option linter.all false
set_option linter.unusedVariables false
set_option linter.unusedSimpArgs false
open Pm Ty Go.RowKit

/-- Bit k of some bytes. -/
def ubit (p : List UInt8) (k : Nat) : Nat := (p.getD (k / 8) 0).toNat / 2 ^ (7 - k % 8) % 2
theorem ubit_lt (p : List UInt8) (k : Nat) : ubit p k < 2 := Nat.mod_lt _ (by omega)
/-- The number of n bits from place a on. -/
def vl (p : List UInt8) (a : Nat) : Nat → Nat
  | 0 => 0
  | n + 1 => 2 * vl p a n + ubit p (a + n)
theorem vl_lt (p : List UInt8) (a : Nat) : ∀ n, vl p a n < 2 ^ n
  | 0 => by simp [vl]
  | n + 1 => by
    have h1 := vl_lt p a n
    have h2 := ubit_lt p (a + n)
    rw [vl, Nat.pow_succ]
    omega
theorem pshl1_u32 (k' : IntKind) (V : Nat) (h : 2 * V < 4294967296) : pint .shl .u32 (V : Int) k' 1 = some (.int .u32 ((2 * V : Nat) : Int)) := by
  simp only [pint, IntKind.bits]
  rw [if_neg (by omega), show min (1 : Int).toNat 32 = 1 from rfl, show (V : Int) * (2 : Int) ^ 1 = ((2 * V : Nat) : Int) by omega, w32 _ (by omega)]
theorem or_even (a b : Nat) (hb : b < 2) : 2 * a ||| b = 2 * a + b := by
  have h1 : 2 * a = a <<< 1 := by rw [Nat.shiftLeft_eq]; omega
  rw [h1, Nat.shiftLeft_add_eq_or_of_lt (by simpa using hb)]
theorem por_u32 (a b : Nat) (hb : b < 2) (h : 2 * a < 4294967296) : pint .or .u32 ((2 * a : Nat) : Int) .u32 (b : Int) = some (.int .u32 ((2 * a + b : Nat) : Int)) := by
  have key0 : (BitVec.ofInt 32 ((2 * a : Nat) : Int) ||| BitVec.ofInt 32 (b : Int)).toNat = 2 * a + b := by
    rw [BitVec.ofInt_natCast, BitVec.ofInt_natCast, BitVec.toNat_or, BitVec.toNat_ofNat, BitVec.toNat_ofNat, Nat.mod_eq_of_lt (by omega), Nat.mod_eq_of_lt (by omega)]
    exact or_even a b hb
  have key : (BitVec.ofInt IntKind.u32.bits ((2 * a : Nat) : Int) ||| BitVec.ofInt IntKind.u32.bits (b : Int)).toNat = 2 * a + b := key0
  simp only [pint, key, if_true]
  rw [w32 _ (by omega)]

/-- A reader: its bytes, its number of bits, its place. -/
def rA (p : List UInt8) (n a : Nat) : Blk := ⟨141, 0, [.slice (bs p) p.length false, .int .i64 (n : Int), .int .i64 (a : Int)]⟩

theorem rleft_ok (i : Nat) (p : List UInt8) (n a : Nat) (H : Heap) (hA : H[i]? = some (rA p n a)) (ha : a ≤ n) (hn : n ≤ 1000000000) : CallOk Tryz.prog 50 [.ptr i 0 0] H (.int .i64 ((n - a : Nat) : Int)) H := by
  have e : (n : Int) - (a : Int) = ((n - a : Nat) : Int) := by omega
  refine CallOk.body (F0 := [(0, .ptr i 0 0)]) Tryz.func50 rfl Tryz.ntmps50 Tryz.results50 rfl (by kernel_rfl) rfl ?_
  (repeat' (first | refine PW.seq ?_ | refine PW.skip ?_ | refine PW.block ?_ | (refine PW.rg rfl fun K hK => ?_; simp (maxSteps := 3000000) (disch := omega) only [go_sem, ↓reduceIte, reduceCtorEq, pappend, plen, hA, rA, e]) | (refine PW.draw mix (by kernel_rfl) fun K hK => ?_; simp (maxSteps := 3000000) (disch := omega) only [go_sem, ↓reduceIte, reduceCtorEq, pappend, plen, hA, rA, e]) | (refine PW.drawg mix (by kernel_rfl) fun K hK => ?_; simp (maxSteps := 3000000) (disch := omega) only [go_sem, ↓reduceIte, reduceCtorEq, pappend, plen, hA, rA, e]) | (refine PW.drawt [] [] mix (by kernel_rfl) fun K hK => ?_; simp (maxSteps := 3000000) (disch := omega) only [go_sem, ↓reduceIte, reduceCtorEq, pappend, plen, hA, rA, e]) | ((first | refine VO_cond (fun h => ?_) (fun h => ?_) | refine VOd_cond (fun h => ?_) (fun h => ?_) | refine VOg_cond (fun h => ?_) (fun h => ?_) | refine VOh_cond (fun h => ?_) (fun h => ?_) | refine VOi_cond (fun h => ?_) (fun h => ?_) | refine And.intro (fun h => ?_) (fun h => ?_)) <;> (try simp only [Bool.not_eq_true', Bool.not_eq_false', decide_eq_true_eq, decide_eq_false_iff_not] at h) <;> simp (maxSteps := 3000000) (disch := omega) only [go_sem, ↓reduceIte, reduceCtorEq, pappend, plen, hA, rA, e, h]) | (refine hK _ _ ?_; clear hK K) | (refine PW.cond (t := _) rfl (fun h => ?_) (fun h => ?_) <;> (try (cases h; done)) <;> (try simp only [Bool.not_eq_true', Bool.not_eq_false', decide_eq_true_eq, decide_eq_false_iff_not] at h))))
  all_goals exact PW.ret ⟨_, rfl, Fin.now⟩

theorem rtake_short (i : Nat) (p : List UInt8) (n a m : Nat) (H : Heap) (hA : H[i]? = some (rA p n a)) (ha : a ≤ n) (hn : n ≤ 1000000000) (hm : m ≤ 32) (hs : n - a < m) :
    CallOk Tryz.prog 78 [.ptr i 0 0, .int .i64 (m : Int)] H (.tup [.int .u32 0, .int .i64 4]) H := by
  refine CallOk.body (F0 := [(0, .ptr i 0 0), (1, .int .i64 (m : Int))]) Tryz.func78 rfl Tryz.ntmps78 Tryz.results78 rfl (by kernel_rfl) rfl ?_
  (repeat' (first | refine PW.seq ?_ | refine PW.skip ?_ | refine PW.block ?_ | (refine PW.rg rfl fun K hK => ?_; simp (maxSteps := 3000000) (disch := omega) only [go_sem, ↓reduceIte, reduceCtorEq, pappend, plen, hA, rA]) | (refine PW.draw mix (by kernel_rfl) fun K hK => ?_; simp (maxSteps := 3000000) (disch := omega) only [go_sem, ↓reduceIte, reduceCtorEq, pappend, plen, hA, rA]) | (refine PW.drawg mix (by kernel_rfl) fun K hK => ?_; simp (maxSteps := 3000000) (disch := omega) only [go_sem, ↓reduceIte, reduceCtorEq, pappend, plen, hA, rA]) | (refine PW.drawt [] [] mix (by kernel_rfl) fun K hK => ?_; simp (maxSteps := 3000000) (disch := omega) only [go_sem, ↓reduceIte, reduceCtorEq, pappend, plen, hA, rA]) | ((first | refine VO_cond (fun h => ?_) (fun h => ?_) | refine VOd_cond (fun h => ?_) (fun h => ?_) | refine VOg_cond (fun h => ?_) (fun h => ?_) | refine VOh_cond (fun h => ?_) (fun h => ?_) | refine VOi_cond (fun h => ?_) (fun h => ?_) | refine And.intro (fun h => ?_) (fun h => ?_)) <;> (try simp only [Bool.not_eq_true', Bool.not_eq_false', decide_eq_true_eq, decide_eq_false_iff_not] at h) <;> simp (maxSteps := 3000000) (disch := omega) only [go_sem, ↓reduceIte, reduceCtorEq, pappend, plen, hA, rA, h]) | (refine hK _ _ ?_; clear hK K) | (refine PW.cond (t := _) rfl (fun h => ?_) (fun h => ?_) <;> (try (cases h; done)) <;> (try simp only [Bool.not_eq_true', Bool.not_eq_false', decide_eq_true_eq, decide_eq_false_iff_not] at h))))
  all_goals first | exact PW.ret ⟨_, rfl, Fin.now⟩ | omega

theorem rtake_ok (i : Nat) (p : List UInt8) (n a m : Nat) (H : Heap) (hA : H[i]? = some (rA p n a)) (ha : a + m ≤ n) (hn : n ≤ 8 * p.length) (hp : p.length ≤ 100000000) (hm : m ≤ 32) :
    CallOk Tryz.prog 78 [.ptr i 0 0, .int .i64 (m : Int)] H (.tup [.int .u32 (vl p a m : Int), .int .i64 0]) (H.set i (rA p n (a + m))) := by
  have hi := (List.getElem?_eq_some_iff.1 hA).1
  have hself := set_self hA
  refine CallOk.body (F0 := [(0, .ptr i 0 0), (1, .int .i64 (m : Int))]) Tryz.func78 rfl Tryz.ntmps78 Tryz.results78 rfl (by kernel_rfl) rfl ?_
  (repeat refine PW.seq ?_); refine PW.rg rfl fun K hK => ?_; simp (maxSteps := 3000000) (disch := omega) only [go_sem, ↓reduceIte, reduceCtorEq, pappend, plen]; refine hK _ _ ?_; clear hK K
  (repeat refine PW.seq ?_)
  refine PW.rgv [0, 1] 17 (.bool false) rfl ?_ ?_
  · simp (maxSteps := 3000000) (disch := omega) only [go_sem, ↓reduceIte, reduceCtorEq, pappend, plen, hA, rA]
  (repeat refine PW.seq ?_); refine PW.cond (t := _) rfl (fun h => ?_) (fun h => ?_)
  · cases h
  refine PW.skip ?_
  (repeat refine PW.seq ?_); refine PW.draw mix (by kernel_rfl) fun K hK => ?_; simp (maxSteps := 3000000) (disch := omega) only [go_sem, ↓reduceIte, reduceCtorEq, pappend, plen, hA, rA]; refine hK _ _ ?_; clear hK K
  (repeat refine PW.seq ?_); refine PW.cond (t := _) rfl (fun h => ?_) (fun h => ?_)
  · cases h
  refine PW.skip ?_
  (repeat refine PW.seq ?_); refine PW.rg rfl fun K hK => ?_; simp (maxSteps := 3000000) (disch := omega) only [go_sem, ↓reduceIte, reduceCtorEq, pappend, plen]; refine hK _ _ ?_; clear hK K
  (repeat refine PW.seq ?_); refine PW.rg rfl fun K hK => ?_; simp (maxSteps := 3000000) (disch := omega) only [go_sem, ↓reduceIte, reduceCtorEq, pappend, plen]; refine hK _ _ ?_; clear hK K
  (repeat refine PW.seq ?_); refine PW.block (PW.loop ?_)
  suffices hloop : ∀ (k : Nat), k ≤ m → PL Tryz.prog _ _ [(0, .ptr i 0 0), (6, .int .u32 (vl p a k : Int)), (29, .int .i64 (m : Int)), (30, .int .i64 (k : Int))] (H.set i (rA p n (a + k))) _ by
    exact PL.at [0, 6, 29, 30] (hloop 0 (Nat.zero_le _)) rfl hself.symm
  intro k hk
  induction hmk : m - k using Nat.strongRecOn generalizing k with
  | _ r ih =>
    refine PL.round ?_; (repeat refine PW.seq ?_); refine PW.rg rfl fun K hK => ?_; simp (maxSteps := 3000000) (disch := omega) only [go_sem, ↓reduceIte, reduceCtorEq, pappend, plen]; refine hK _ _ ?_; clear hK K
    have hat : ∀ B : Blk, (H.set i B)[i]? = some B := fun B => by simp [hi]
    (repeat refine PW.seq ?_); refine PW.cond (t := _) rfl (fun h => ?_) (fun h => ?_)
    · have h4 : k < m := by have := of_decide_eq_true h; omega
      have hnext := ih (m - (k + 1)) (by omega) (k + 1) (by omega) rfl
      have hr8 : (a + k) % 8 < 8 := Nat.mod_lt _ (by omega)
      have hq8 : (a + k) / 8 < p.length := by omega
      have hu : ubit p (a + k) = (p.getD ((a + k) / 8) 0).toNat / 2 ^ (7 - (a + k) % 8) % 2 := rfl
      have e3 : (7 : Int) - (((a + k) % 8 : Nat) : Int) = ((7 - (a + k) % 8 : Nat) : Int) := by omega
      have e4 : ((a + k : Nat) : Int) + 1 = ((a + (k + 1) : Nat) : Int) := by omega
      have hul := ubit_lt p (a + k)
      have hvl := vl_lt p a k
      have hvl2 : 2 * vl p a k < 4294967296 := by
        have : 2 ^ k ≤ 2 ^ 31 := Nat.pow_le_pow_right (by omega) (by omega)
        omega
      have hb : byt p ((a + k) / 8) = ((p.getD ((a + k) / 8) 0).toNat : Int) := rfl
      refine PW.skip ?_; (repeat refine PW.seq ?_); refine PW.block ?_
      (repeat refine PW.seq ?_); refine PW.draw mix (by kernel_rfl) fun K hK => ?_; simp (maxSteps := 3000000) (disch := omega) only [go_sem, ↓reduceIte, reduceCtorEq, pappend, plen, hat, rA, tdiv8, tmod8, length_bs, bs_get, e3, hb, pshr_u8, pand1_u8, ← hu]; refine hK _ _ ?_; clear hK K
      (repeat refine PW.seq ?_); refine PW.rg rfl fun K hK => ?_; simp (maxSteps := 3000000) (disch := omega) only [go_sem, ↓reduceIte, reduceCtorEq, pappend, plen, pshl1_u32, por_u32]; refine hK _ _ ?_; clear hK K
      (repeat refine PW.seq ?_); refine PW.rg rfl fun K hK => ?_; simp (maxSteps := 3000000) (disch := omega) only [go_sem, ↓reduceIte, reduceCtorEq, pappend, plen, hat, rA, e4, List.set_set]; refine hK _ _ ?_; clear hK K
      (repeat refine PW.seq ?_); refine PW.rg rfl fun K hK => ?_; simp (maxSteps := 3000000) (disch := omega) only [go_sem, ↓reduceIte, reduceCtorEq, pappend, plen]; refine hK _ _ ?_; clear hK K
      exact PL.at [0, 6, 29, 30] hnext rfl rfl
    · have h4 : k = m := by have := of_decide_eq_false h; omega
      subst h4
      refine PW.exit ?_
      (repeat refine PW.seq ?_); refine PW.rg rfl fun K hK => ?_; simp (maxSteps := 3000000) (disch := omega) only [go_sem, ↓reduceIte, reduceCtorEq, pappend, plen]; refine hK _ _ ?_; clear hK K
      refine PW.ret ⟨_, rfl, Fin.now⟩

end Go.Proofs.YtnnkohejhnjflaaGreatDoor.Sc
