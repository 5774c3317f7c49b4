/-
  Parts of the proof, put together in one text. No condition.
-/
import Derived.Test.YtnjnikafhbholaaZ2
import Derived.Test.YtnjnikafhbholaaRows
namespace Go.Proofs.Ytnjnikafhbholaa.Sc
set_option linter.all false
set_option linter.unusedVariables false
set_option linter.unusedSimpArgs false
open Pm Ty Go.RowKit

def mbs (n most : Int) : Bool := decide (16 ≤ n) && decide (n ≤ most) && (n.tmod 16 == 0)
theorem mbs_ok (n most : Int) (H : Heap) : CallOk Try.prog 77 [.int .i64 n, .int .i64 most] H (.bool (mbs n most)) H := by
  refine CallOk.body (F0 := [(0, .int .i64 n), (1, .int .i64 most)]) Try.func77 rfl Try.ntmps77 Try.results77 rfl (by kernel_rfl) rfl ?_
  (repeat refine PW.seq ?_); refine PW.rg rfl fun K hK => ?_; simp (maxSteps := 3000000) (disch := omega) only [go_sem, ↓reduceIte, reduceCtorEq, pappend, plen]; refine hK _ _ ?_; clear hK K
  (repeat refine PW.seq ?_); refine PW.rg rfl fun K hK => ?_; simp (maxSteps := 3000000) (disch := omega) only [go_sem, ↓reduceIte, reduceCtorEq, pappend, plen]; (repeat' ((first | refine VO_cond (fun h => ?_) (fun h => ?_) | refine VOd_cond (fun h => ?_) (fun h => ?_) | refine VOg_cond (fun h => ?_) (fun h => ?_) | refine VOh_cond (fun h => ?_) (fun h => ?_) | refine VOi_cond (fun h => ?_) (fun h => ?_) | refine And.intro (fun h => ?_) (fun h => ?_)) <;> (try simp only [Bool.not_eq_true', Bool.not_eq_false', decide_eq_true_eq, decide_eq_false_iff_not] at h) <;> simp (maxSteps := 3000000) (disch := omega) only [go_sem, ↓reduceIte, reduceCtorEq, pappend, plen, h]))
  all_goals (refine hK _ _ ?_; clear hK K)
  all_goals (refine PW.ret ⟨_, rfl, .inl ⟨?_, rfl⟩⟩; simp_all [mbs, slot, Nat.beq]; try omega)

theorem gcd_ok (x y : Nat) (H : Heap) : CallOk Try.prog 119 [.int .u64 (x : Int), .int .u64 (y : Int)] H (.int .u64 (Nat.gcd x y : Int)) H := by
  generalize hr : Nat.gcd x y = r
  refine CallOk.body (F0 := [(0, .int .u64 (x : Int)), (1, .int .u64 (y : Int))]) Try.func119 rfl Try.ntmps119 Try.results119 rfl (by kernel_rfl) rfl ?_
  (repeat refine PW.seq ?_); refine PW.rg rfl fun K hK => ?_; simp (maxSteps := 3000000) (disch := omega) only [go_sem, ↓reduceIte, reduceCtorEq, pappend, plen]; refine hK _ _ ?_; clear hK K
  (repeat refine PW.seq ?_); refine PW.block (PW.loop ?_)
  refine PL.at [0, 1] (?_ : PL _ _ _ [(0, .int .u64 (x : Int)), (1, .int .u64 (y : Int))] H _) rfl rfl
  induction hm : y using Nat.strongRecOn generalizing x y with
  | _ n ih =>
    subst hm
    refine PL.round ?_; (repeat refine PW.seq ?_); refine PW.rg rfl fun K hK => ?_; simp (maxSteps := 3000000) (disch := omega) only [go_sem, ↓reduceIte, reduceCtorEq, pappend, plen]; refine hK _ _ ?_; clear hK K
    (repeat refine PW.seq ?_); refine PW.cond (t := _) rfl (fun h => ?_) (fun h => ?_)
    · have hy : y ≠ 0 := by intro e; subst e; simp at h
      refine PW.skip ?_; (repeat refine PW.seq ?_); refine PW.block ?_; (repeat refine PW.seq ?_); refine PW.draw mix (by kernel_rfl) fun K hK => ?_; simp (maxSteps := 3000000) (disch := omega) only [go_sem, ↓reduceIte, reduceCtorEq, pappend, plen, tmodN]; refine hK _ _ ?_; clear hK K
      exact PL.at [0, 1] (ih (x % y) (Nat.mod_lt _ (by omega)) y (x % y) (by rw [← hr, Nat.gcd_comm x y, Nat.gcd_rec y x, Nat.gcd_comm]) rfl) rfl rfl
    · have hy : y = 0 := by simpa using h
      subst hy
      refine PW.exit ?_
      (repeat refine PW.seq ?_); refine PW.rg rfl fun K hK => ?_; simp (maxSteps := 3000000) (disch := omega) only [go_sem, ↓reduceIte, reduceCtorEq, pappend, plen]; refine hK _ _ ?_; clear hK K
      exact PW.ret ⟨_, rfl, .inl ⟨by rw [← hr, Nat.gcd_zero_right]; rfl, rfl⟩⟩
theorem gcd_ref (x y : Nat) (H : Heap) : CallOk Try.prog 121 [.int .u64 (x : Int), .int .u64 (y : Int)] H (.int .u64 (Nat.gcd x y : Int)) H := by
  generalize hr : Nat.gcd x y = r
  refine CallOk.body (F0 := [(0, .int .u64 (x : Int)), (1, .int .u64 (y : Int))]) Try.func121 rfl Try.ntmps121 Try.results121 rfl (by kernel_rfl) rfl ?_
  (repeat refine PW.seq ?_); refine PW.rg rfl fun K hK => ?_; simp (maxSteps := 3000000) (disch := omega) only [go_sem, ↓reduceIte, reduceCtorEq, pappend, plen]; refine hK _ _ ?_; clear hK K
  (repeat refine PW.seq ?_); refine PW.block (PW.loop ?_)
  refine PL.at [0, 1] (?_ : PL _ _ _ [(0, .int .u64 (x : Int)), (1, .int .u64 (y : Int))] H _) rfl rfl
  induction hm : y using Nat.strongRecOn generalizing x y with
  | _ n ih =>
    subst hm
    refine PL.round ?_; (repeat refine PW.seq ?_); refine PW.rg rfl fun K hK => ?_; simp (maxSteps := 3000000) (disch := omega) only [go_sem, ↓reduceIte, reduceCtorEq, pappend, plen]; refine hK _ _ ?_; clear hK K
    (repeat refine PW.seq ?_); refine PW.cond (t := _) rfl (fun h => ?_) (fun h => ?_)
    · have hy : y ≠ 0 := by intro e; subst e; simp at h
      refine PW.skip ?_; (repeat refine PW.seq ?_); refine PW.block ?_; (repeat refine PW.seq ?_); refine PW.draw mix (by kernel_rfl) fun K hK => ?_; simp (maxSteps := 3000000) (disch := omega) only [go_sem, ↓reduceIte, reduceCtorEq, pappend, plen, tmodN]; refine hK _ _ ?_; clear hK K
      exact PL.at [0, 1] (ih (x % y) (Nat.mod_lt _ (by omega)) y (x % y) (by rw [← hr, Nat.gcd_comm x y, Nat.gcd_rec y x, Nat.gcd_comm]) rfl) rfl rfl
    · have hy : y = 0 := by simpa using h
      subst hy
      refine PW.exit ?_
      (repeat refine PW.seq ?_); refine PW.rg rfl fun K hK => ?_; simp (maxSteps := 3000000) (disch := omega) only [go_sem, ↓reduceIte, reduceCtorEq, pappend, plen]; refine hK _ _ ?_; clear hK K
      exact PW.ret ⟨_, rfl, .inl ⟨by rw [← hr, Nat.gcd_zero_right]; rfl, rfl⟩⟩
theorem magn_ok (n : Int) (H : Heap) (hn : -9223372036854775808 ≤ n ∧ n ≤ 9223372036854775807) : CallOk Try.prog 120 [.int .i64 n] H (.int .u64 (n.natAbs : Int)) H := by
  refine CallOk.body (F0 := [(0, .int .i64 n)]) Try.func120 rfl Try.ntmps120 Try.results120 rfl (by kernel_rfl) rfl ?_
  (repeat refine PW.seq ?_); refine PW.rg rfl fun K hK => ?_; simp (maxSteps := 3000000) (disch := omega) only [go_sem, ↓reduceIte, reduceCtorEq, pappend, plen]; refine hK _ _ ?_; clear hK K
  (repeat refine PW.seq ?_); refine PW.rg rfl fun K hK => ?_; simp (maxSteps := 3000000) (disch := omega) only [go_sem, ↓reduceIte, reduceCtorEq, pappend, plen]; refine hK _ _ ?_; clear hK K
  (repeat refine PW.seq ?_); refine PW.cond (t := _) rfl (fun h => ?_) (fun h => ?_)
  · have h1 := of_decide_eq_true h
    (repeat refine PW.seq ?_); refine PW.rg rfl fun K hK => ?_; simp (maxSteps := 3000000) (disch := omega) only [go_sem, ↓reduceIte, reduceCtorEq, pappend, plen, wu64n]; refine hK _ _ ?_; clear hK K
    refine PW.ret ⟨_, rfl, .inl ⟨?_, rfl⟩⟩
    have e : (n.natAbs : Int) = 0 - (n + 18446744073709551616) + 18446744073709551616 := by omega
    rw [e]; rfl
  · have h1 := of_decide_eq_false h
    refine PW.skip ?_
    (repeat refine PW.seq ?_); refine PW.rg rfl fun K hK => ?_; simp (maxSteps := 3000000) (disch := omega) only [go_sem, ↓reduceIte, reduceCtorEq, pappend, plen, wu64]; refine hK _ _ ?_; clear hK K
    refine PW.ret ⟨_, rfl, .inl ⟨?_, rfl⟩⟩
    have e : (n.natAbs : Int) = n := by omega
    rw [e]; rfl
theorem magn_ref (n : Int) (H : Heap) (hn : -9223372036854775808 ≤ n ∧ n ≤ 9223372036854775807) : CallOk Try.prog 122 [.int .i64 n] H (.int .u64 (n.natAbs : Int)) H := by
  refine CallOk.body (F0 := [(0, .int .i64 n)]) Try.func122 rfl Try.ntmps122 Try.results122 rfl (by kernel_rfl) rfl ?_
  (repeat refine PW.seq ?_); refine PW.rg rfl fun K hK => ?_; simp (maxSteps := 3000000) (disch := omega) only [go_sem, ↓reduceIte, reduceCtorEq, pappend, plen]; refine hK _ _ ?_; clear hK K
  (repeat refine PW.seq ?_); refine PW.rg rfl fun K hK => ?_; simp (maxSteps := 3000000) (disch := omega) only [go_sem, ↓reduceIte, reduceCtorEq, pappend, plen]; refine hK _ _ ?_; clear hK K
  (repeat refine PW.seq ?_); refine PW.cond (t := _) rfl (fun h => ?_) (fun h => ?_)
  · have h1 := of_decide_eq_true h
    (repeat refine PW.seq ?_); refine PW.rg rfl fun K hK => ?_; simp (maxSteps := 3000000) (disch := omega) only [go_sem, ↓reduceIte, reduceCtorEq, pappend, plen, wu64]; refine hK _ _ ?_; clear hK K
    refine PW.ret ⟨_, rfl, .inl ⟨?_, rfl⟩⟩
    have e : (n.natAbs : Int) = 0 - (n + 1) + 1 := by omega
    rw [e]; rfl
  · have h1 := of_decide_eq_false h
    refine PW.skip ?_
    (repeat refine PW.seq ?_); refine PW.rg rfl fun K hK => ?_; simp (maxSteps := 3000000) (disch := omega) only [go_sem, ↓reduceIte, reduceCtorEq, pappend, plen, wu64]; refine hK _ _ ?_; clear hK K
    refine PW.ret ⟨_, rfl, .inl ⟨?_, rfl⟩⟩
    have e : (n.natAbs : Int) = n := by omega
    rw [e]; rfl

def ratOk (num den : Int) : Bool := decide (1 ≤ den) && decide (-9223372036854775808 < num) && (Nat.gcd num.natAbs den.natAbs == 1)
theorem natc (n : Int) (h : 0 ≤ n) : n = ((n.natAbs : Nat) : Int) := by omega
theorem beq_nat (a b : Nat) : ((a : Int) == (b : Int)) = (a == b) := by
  rw [Bool.eq_iff_iff]; simp only [beq_iff_eq]; omega
theorem rat_ok (num den : Int) (H : Heap) (hn : -9223372036854775808 ≤ num ∧ num ≤ 9223372036854775807) (hd : -9223372036854775808 ≤ den ∧ den ≤ 9223372036854775807) :
    CallOk Try.prog 78 [.agg [.int .i64 num, .int .i64 den]] H (.bool (ratOk num den)) H := by
  generalize hr : ratOk num den = r
  refine CallOk.body (F0 := [(0, .agg [.int .i64 num, .int .i64 den])]) Try.func78 rfl Try.ntmps78 Try.results78 rfl (by kernel_rfl) rfl ?_
  (repeat refine PW.seq ?_); refine PW.rg rfl fun K hK => ?_; simp (maxSteps := 3000000) (disch := omega) only [go_sem, ↓reduceIte, reduceCtorEq, pappend, plen]; refine hK _ _ ?_; clear hK K
  (repeat refine PW.seq ?_); refine PW.draw mix (by kernel_rfl) fun K hK => ?_; simp (maxSteps := 3000000) (disch := omega) only [go_sem, ↓reduceIte, reduceCtorEq, pappend, plen, wu64]; (repeat' ((first | refine VO_cond (fun h => ?_) (fun h => ?_) | refine VOd_cond (fun h => ?_) (fun h => ?_) | refine VOg_cond (fun h => ?_) (fun h => ?_) | refine VOh_cond (fun h => ?_) (fun h => ?_) | refine VOi_cond (fun h => ?_) (fun h => ?_) | refine And.intro (fun h => ?_) (fun h => ?_)) <;> (try simp only [Bool.not_eq_true', Bool.not_eq_false', decide_eq_true_eq, decide_eq_false_iff_not] at h) <;> simp (maxSteps := 3000000) (disch := omega) only [go_sem, ↓reduceIte, reduceCtorEq, pappend, plen, wu64, h]))
  · rename_i h1
    have e : den = ((den.natAbs : Nat) : Int) := by omega
    have hg := gcd_ok num.natAbs den.natAbs (H ++ [⟨36, 0, [.int .i64 num, .int .i64 den]⟩])
    rw [← e] at hg
    refine VCy.call (magn_ok _ _ hn) rfl ?_; simp (maxSteps := 3000000) (disch := omega) only [go_sem, ↓reduceIte, reduceCtorEq, pappend, plen, wu64]; refine VCy.call (hg) rfl ?_; simp (maxSteps := 3000000) (disch := omega) only [go_sem, ↓reduceIte, reduceCtorEq, pappend, plen]
    refine hK _ _ ?_; clear hK K
    refine PW.ret ⟨_, rfl, Fin.base (.id' ?_ (.bool _))⟩
    rw [← hr]
    simp [ratOk, slot, Nat.beq, h, h1]
    rw [Bool.eq_iff_iff]; simp; omega
  all_goals (refine hK _ _ ?_; clear hK K)
  all_goals (refine PW.ret ⟨_, rfl, Fin.base (.id' ?_ (.bool _))⟩; rw [← hr]; simp_all [ratOk, slot, Nat.beq]; try omega)
theorem rat_ref (num den : Int) (H : Heap) (hn : -9223372036854775808 ≤ num ∧ num ≤ 9223372036854775807) (hd : -9223372036854775808 ≤ den ∧ den ≤ 9223372036854775807) :
    CallOk Try.prog 80 [.agg [.int .i64 num, .int .i64 den]] H (.bool (ratOk num den)) H := by
  generalize hr : ratOk num den = r
  refine CallOk.body (F0 := [(0, .agg [.int .i64 num, .int .i64 den])]) Try.func80 rfl Try.ntmps80 Try.results80 rfl (by kernel_rfl) rfl ?_
  (repeat refine PW.seq ?_); refine PW.rg rfl fun K hK => ?_; simp (maxSteps := 3000000) (disch := omega) only [go_sem, ↓reduceIte, reduceCtorEq, pappend, plen]; refine hK _ _ ?_; clear hK K
  (repeat refine PW.seq ?_); refine PW.draw mix (by kernel_rfl) fun K hK => ?_; simp (maxSteps := 3000000) (disch := omega) only [go_sem, ↓reduceIte, reduceCtorEq, pappend, plen, wu64]; (repeat' ((first | refine VO_cond (fun h => ?_) (fun h => ?_) | refine VOd_cond (fun h => ?_) (fun h => ?_) | refine VOg_cond (fun h => ?_) (fun h => ?_) | refine VOh_cond (fun h => ?_) (fun h => ?_) | refine VOi_cond (fun h => ?_) (fun h => ?_) | refine And.intro (fun h => ?_) (fun h => ?_)) <;> (try simp only [Bool.not_eq_true', Bool.not_eq_false', decide_eq_true_eq, decide_eq_false_iff_not] at h) <;> simp (maxSteps := 3000000) (disch := omega) only [go_sem, ↓reduceIte, reduceCtorEq, pappend, plen, wu64, h]))
  · rename_i h1
    have e : den = ((den.natAbs : Nat) : Int) := by omega
    have hg := gcd_ref num.natAbs den.natAbs (H ++ [⟨36, 0, [.int .i64 num, .int .i64 den]⟩])
    rw [← e] at hg
    refine VCy.call (magn_ref _ _ hn) rfl ?_; simp (maxSteps := 3000000) (disch := omega) only [go_sem, ↓reduceIte, reduceCtorEq, pappend, plen, wu64]; refine VCy.call (hg) rfl ?_; simp (maxSteps := 3000000) (disch := omega) only [go_sem, ↓reduceIte, reduceCtorEq, pappend, plen]
    refine hK _ _ ?_; clear hK K
    refine PW.ret ⟨_, rfl, Fin.base (.id' ?_ (.bool _))⟩
    rw [← hr]
    have h2 : -9223372036854775808 < num := by omega
    simp [ratOk, slot, Nat.beq, h, h1, h2]
    rw [Bool.eq_iff_iff]; simp; omega
  all_goals (refine hK _ _ ?_; clear hK K)
  all_goals (refine PW.ret ⟨_, rfl, Fin.base (.id' ?_ (.bool _))⟩; rw [← hr]; clear hr)
  · have h2 : ¬ -9223372036854775808 < num := by omega
    simp [ratOk, slot, Nat.beq, h2]
  · simp_all [ratOk, slot, Nat.beq]; try omega

/-- A sequence header. -/
structure Sq where
  w : Int
  h : Int
  num : Int
  den : Int
  il : Bool
  br : Int
  bf : Int
  ia : List UInt8
  ie : List UInt8
def sqc (s : Sq) : List PV := .int .i64 s.w :: .int .i64 s.h :: .int .i64 s.num :: .int .i64 s.den :: .bool s.il :: .int .i64 s.br :: .int .i64 s.bf :: (bs s.ia ++ bs s.ie)
def i64r (n : Int) : Prop := -9223372036854775808 ≤ n ∧ n ≤ 9223372036854775807
structure SqOk (s : Sq) : Prop where
  w : -9223372036854775808 ≤ s.w ∧ s.w ≤ 9223372036854775807
  h : -9223372036854775808 ≤ s.h ∧ s.h ≤ 9223372036854775807
  num : -9223372036854775808 ≤ s.num ∧ s.num ≤ 9223372036854775807
  den : -9223372036854775808 ≤ s.den ∧ s.den ≤ 9223372036854775807
  br : -9223372036854775808 ≤ s.br ∧ s.br ≤ 9223372036854775807
  bf : -9223372036854775808 ≤ s.bf ∧ s.bf ≤ 9223372036854775807
  ia : s.ia.length = 64
  ie : s.ie.length = 64
theorem sqc_scoped (n : Nat) (s : Sq) : ∀ x ∈ sqc s, Scoped n x := fun x hx => by
  simp only [sqc, List.mem_cons, List.mem_append] at hx
  rcases hx with rfl | rfl | rfl | rfl | rfl | rfl | rfl | hx | hx
  all_goals first | exact .int _ _ | exact .bool _ | exact bs_scoped n _ x hx
theorem sq_ia (p q : List UInt8) (h : p.length = 64) : (bs p ++ bs q).take 64 = bs p := by
  rw [List.take_append_of_le_length (by rw [length_bs]; omega), List.take_of_length_le (by rw [length_bs]; omega)]
theorem sq_ie (p q : List UInt8) (h : p.length = 64) : (bs p ++ bs q).drop 64 = bs q := by
  rw [List.drop_append_of_le_length (by rw [length_bs]; omega), List.drop_of_length_le (by rw [length_bs]; omega), List.nil_append]
theorem sq_tk (q : List UInt8) (h : q.length = 64) : (bs q).take 64 = bs q := List.take_of_length_le (by rw [length_bs]; omega)

theorem sq_all (p q : List UInt8) (h : p.length = 64) (h' : q.length = 64) : (bs p ++ bs q).take 128 = bs p ++ bs q := List.take_of_length_le (by rw [List.length_append, length_bs, length_bs]; omega)
def mxOk (m : List UInt8) : Bool := m.all fun b => decide (8 ≤ b.toNat)
theorem mxOk_at (m : List UInt8) (k : Nat) (hk : k ≤ m.length) : (m.drop k).all (fun b => decide (8 ≤ b.toNat)) = if k < m.length then decide (8 ≤ byt m k) && (m.drop (k + 1)).all (fun b => decide (8 ≤ b.toNat)) else true := by
  split
  · rename_i h
    rw [List.drop_eq_getElem_cons h, List.all_cons]
    congr 1
    simp [byt, h]
    omega
  · rw [List.drop_of_length_le (by omega)]; rfl
theorem mx_ok (m : List UInt8) (H : Heap) (hl : m.length = 64) : CallOk Try.prog 79 [.agg (bs m)] H (.bool (mxOk m)) H := by
  refine CallOk.body (F0 := [(0, .agg (bs m))]) Try.func79 rfl Try.ntmps79 Try.results79 rfl (by kernel_rfl) rfl ?_
  have hall : (bs m).all PV.cell = true := by simp [bs, PV.cell]
  (repeat refine PW.seq ?_); refine PW.rg rfl fun K hK => ?_; simp (maxSteps := 3000000) (disch := omega) only [go_sem, ↓reduceIte, reduceCtorEq, pappend, plen, hall]; refine hK _ _ ?_; clear hK K
  (repeat refine PW.seq ?_); refine PW.rg rfl fun K hK => ?_; simp (maxSteps := 3000000) (disch := omega) only [go_sem, ↓reduceIte, reduceCtorEq, pappend, plen, length_bs, sq_tk]; refine hK _ _ ?_; clear hK K
  (repeat refine PW.seq ?_); refine PW.block (PW.loop ?_)
  suffices hloop : ∀ (k : Nat), k ≤ 64 → mxOk m = (m.drop k).all (fun b => decide (8 ≤ b.toNat)) → PL Try.prog _ _ [(5, .agg (bs m)), (6, .int .i64 (k : Int))] (H ++ [⟨37, 0, bs m⟩]) _ by
    exact PL.at [5, 6] (hloop 0 (by omega) (by simp [mxOk])) rfl rfl
  intro k hk heq
  induction hm : 64 - k using Nat.strongRecOn generalizing k with
  | _ n ih =>
    rw [mxOk_at m k (by omega)] at heq
    refine PL.round ?_; (repeat refine PW.seq ?_); refine PW.rg rfl fun K hK => ?_; simp (maxSteps := 3000000) (disch := omega) only [go_sem, ↓reduceIte, reduceCtorEq, pappend, plen]; refine hK _ _ ?_; clear hK K
    (repeat refine PW.seq ?_); refine PW.cond (t := _) rfl (fun h => ?_) (fun h => ?_)
    · have h4 : k < 64 := by have := of_decide_eq_true h; omega
      rw [if_pos (by omega)] at heq
      refine PW.skip ?_; (repeat refine PW.seq ?_); refine PW.block ?_
      (repeat refine PW.seq ?_); refine PW.rg rfl fun K hK => ?_; simp (maxSteps := 3000000) (disch := omega) only [go_sem, ↓reduceIte, reduceCtorEq, pappend, plen, bs_get]; refine hK _ _ ?_; clear hK K
      (repeat refine PW.seq ?_); refine PW.rg rfl fun K hK => ?_; simp (maxSteps := 3000000) (disch := omega) only [go_sem, ↓reduceIte, reduceCtorEq, pappend, plen]; refine hK _ _ ?_; clear hK K
      (repeat refine PW.seq ?_); refine PW.cond (t := _) rfl (fun h => ?_) (fun h => ?_)
      · have h5 := of_decide_eq_true h
        (repeat refine PW.seq ?_); refine PW.rg rfl fun K hK => ?_; simp (maxSteps := 3000000) (disch := omega) only [go_sem, ↓reduceIte, reduceCtorEq, pappend, plen]; refine hK _ _ ?_; clear hK K
        refine PW.ret ⟨_, rfl, Fin.base (.id' ?_ (.bool _))⟩
        rw [heq]
        simp [slot, Nat.beq]; omega
      · have h5 := of_decide_eq_false h
        refine PW.skip ?_
        (repeat refine PW.seq ?_); refine PW.rg rfl fun K hK => ?_; simp (maxSteps := 3000000) (disch := omega) only [go_sem, ↓reduceIte, reduceCtorEq, pappend, plen]; refine hK _ _ ?_; clear hK K
        refine PL.at [5, 6] (ih (64 - (k + 1)) (by omega) (k + 1) (by omega) ?_ rfl) rfl rfl
        rw [heq]; simp; omega
    · have h4 : ¬ k < 64 := by have := of_decide_eq_false h; omega
      rw [if_neg (by omega)] at heq
      refine PW.exit ?_
      (repeat refine PW.seq ?_); refine PW.rg rfl fun K hK => ?_; simp (maxSteps := 3000000) (disch := omega) only [go_sem, ↓reduceIte, reduceCtorEq, pappend, plen]; refine hK _ _ ?_; clear hK K
      refine PW.ret ⟨_, rfl, Fin.base (.id' ?_ (.bool _))⟩
      rw [heq]; rfl
theorem mx_ref (m : List UInt8) (H : Heap) (hl : m.length = 64) : CallOk Try.prog 81 [.agg (bs m)] H (.bool (mxOk m)) H := by
  refine CallOk.body (F0 := [(0, .agg (bs m))]) Try.func81 rfl Try.ntmps81 Try.results81 rfl (by kernel_rfl) rfl ?_
  have hall : (bs m).all PV.cell = true := by simp [bs, PV.cell]
  (repeat refine PW.seq ?_); refine PW.rg rfl fun K hK => ?_; simp (maxSteps := 3000000) (disch := omega) only [go_sem, ↓reduceIte, reduceCtorEq, pappend, plen, hall]; refine hK _ _ ?_; clear hK K
  (repeat refine PW.seq ?_); refine PW.rg rfl fun K hK => ?_; simp (maxSteps := 3000000) (disch := omega) only [go_sem, ↓reduceIte, reduceCtorEq, pappend, plen]; refine hK _ _ ?_; clear hK K
  (repeat refine PW.seq ?_); refine PW.block (PW.loop ?_)
  suffices hloop : ∀ (k : Nat), k ≤ 64 → mxOk m = (m.drop k).all (fun b => decide (8 ≤ b.toNat)) → PL Try.prog _ _ [(1, .ptr H.length 0 0), (3, .int .i64 (k : Int))] (H ++ [⟨37, 0, bs m⟩]) _ by
    exact PL.at [1, 3] (hloop 0 (by omega) (by simp [mxOk])) rfl rfl
  intro k hk heq
  induction hm : 64 - k using Nat.strongRecOn generalizing k with
  | _ n ih =>
    rw [mxOk_at m k (by omega)] at heq
    refine PL.round ?_; (repeat refine PW.seq ?_); refine PW.rg rfl fun K hK => ?_; simp (maxSteps := 3000000) (disch := omega) only [go_sem, ↓reduceIte, reduceCtorEq, pappend, plen]; refine hK _ _ ?_; clear hK K
    (repeat refine PW.seq ?_); refine PW.cond (t := _) rfl (fun h => ?_) (fun h => ?_)
    · have h4 : k < 64 := by have := of_decide_eq_true h; omega
      rw [if_pos (by omega)] at heq
      refine PW.skip ?_; (repeat refine PW.seq ?_); refine PW.block ?_; (repeat refine PW.seq ?_); refine PW.rg rfl fun K hK => ?_; simp (maxSteps := 3000000) (disch := omega) only [go_sem, ↓reduceIte, reduceCtorEq, pappend, plen, bs_get]; refine hK _ _ ?_; clear hK K
      (repeat refine PW.seq ?_); refine PW.cond (t := _) rfl (fun h => ?_) (fun h => ?_)
      · have h5 := of_decide_eq_true h
        (repeat refine PW.seq ?_); refine PW.rg rfl fun K hK => ?_; simp (maxSteps := 3000000) (disch := omega) only [go_sem, ↓reduceIte, reduceCtorEq, pappend, plen]; refine hK _ _ ?_; clear hK K
        refine PW.ret ⟨_, rfl, Fin.base (.id' ?_ (.bool _))⟩
        rw [heq]
        simp [slot, Nat.beq]; omega
      · have h5 := of_decide_eq_false h
        refine PW.skip ?_
        (repeat refine PW.seq ?_); refine PW.rg rfl fun K hK => ?_; simp (maxSteps := 3000000) (disch := omega) only [go_sem, ↓reduceIte, reduceCtorEq, pappend, plen]; refine hK _ _ ?_; clear hK K
        refine PL.at [1, 3] (ih (64 - (k + 1)) (by omega) (k + 1) (by omega) ?_ rfl) rfl rfl
        rw [heq]; simp; omega
    · have h4 : ¬ k < 64 := by have := of_decide_eq_false h; omega
      rw [if_neg (by omega)] at heq
      refine PW.exit ?_
      (repeat refine PW.seq ?_); refine PW.rg rfl fun K hK => ?_; simp (maxSteps := 3000000) (disch := omega) only [go_sem, ↓reduceIte, reduceCtorEq, pappend, plen]; refine hK _ _ ?_; clear hK K
      refine PW.ret ⟨_, rfl, Fin.base (.id' ?_ (.bool _))⟩
      rw [heq]; rfl

end Go.Proofs.Ytnjnikafhbholaa.Sc

namespace Go.Proofs.Ytnjnikafhbholaa.Sc
set_option linter.all false
set_option linter.unusedVariables false
set_option linter.unusedSimpArgs false
open Pm Ty Go.RowKit

def vsz (s : Sq) : Bool := mbs s.w 64 && mbs s.h 64 && (!s.il || (s.h.tmod 32 == 0))
def vrt (s : Sq) : Bool := ratOk s.num s.den && decide (1 ≤ s.num) && decide (s.num ≤ 1048576) && decide (s.den ≤ 65536)
def vbr (s : Sq) : Bool := decide (1 ≤ s.br) && decide (s.br ≤ 16777216) && decide (1 ≤ s.bf) && decide (s.bf ≤ 8388608)
def vbu (s : Sq) : Bool := decide (3 * s.den * s.br + 32 * s.num ≤ 2 * s.num * s.bf)
def vseq (s : Sq) : Bool := vsz s && (vrt s && (vbr s && (vbu s && (mxOk s.ia && mxOk s.ie))))

theorem ratOk_pos {num den : Int} (h : ratOk num den = true) : 1 ≤ den := by simp [ratOk] at h; exact h.1.1
theorem prod_bd {a b : Int} {A B : Int} (ha : 0 ≤ a) (hA : a ≤ A) (hb : 0 ≤ b) (hB : b ≤ B) : 0 ≤ a * b ∧ a * b ≤ A * B :=
  ⟨Int.mul_nonneg ha hb, Int.mul_le_mul hA hB hb (Int.le_trans ha hA)⟩

theorem vseq_ok (s : Sq) (H : Heap) (hs : SqOk s) : CallOk Try.prog 21 [.agg (sqc s)] H (.bool (vseq s)) H := by
  obtain ⟨hw, hh, hnum, hden, hbr, hbf, hia, hie⟩ := hs
  have hall : (bs s.ia ++ bs s.ie).all PV.cell = true := by simp [bs, PV.cell]
  refine CallOk.body (F0 := [(0, .agg (sqc s))]) Try.func21 rfl Try.ntmps21 Try.results21 rfl (by kernel_rfl) rfl ?_
  (repeat refine PW.seq ?_); refine PW.rg rfl fun K hK => ?_; simp (maxSteps := 3000000) (disch := omega) only [go_sem, ↓reduceIte, reduceCtorEq, pappend, plen, sqc, hall]; refine hK _ _ ?_; clear hK K
  refine PW.seq (PW.seq (PW.rgv [1] 22 (.bool (!vsz s)) rfl ?_ ?_))
  · simp (maxSteps := 3000000) (disch := omega) only [go_sem, ↓reduceIte, reduceCtorEq, pappend, plen]; (repeat' (first | ((first | refine VO_cond (fun h => ?_) (fun h => ?_) | refine VOd_cond (fun h => ?_) (fun h => ?_) | refine VOg_cond (fun h => ?_) (fun h => ?_) | refine VOh_cond (fun h => ?_) (fun h => ?_) | refine VOi_cond (fun h => ?_) (fun h => ?_) | refine And.intro (fun h => ?_) (fun h => ?_)) <;> (try simp only [Bool.not_eq_true', Bool.not_eq_false', decide_eq_true_eq, decide_eq_false_iff_not] at h) <;> simp (maxSteps := 3000000) (disch := omega) only [go_sem, ↓reduceIte, reduceCtorEq, pappend, plen, h]) | (refine VCx.call (mbs_ok _ _ _) rfl ?_; simp (maxSteps := 3000000) (disch := omega) only [go_sem, ↓reduceIte, reduceCtorEq, pappend, plen]) | (refine VCy.call (mbs_ok _ _ _) rfl ?_; simp (maxSteps := 3000000) (disch := omega) only [go_sem, ↓reduceIte, reduceCtorEq, pappend, plen]) | (refine VCz.call (fun _ => mbs_ok _ _ _) rfl ?_; simp (maxSteps := 3000000) (disch := omega) only [go_sem, ↓reduceIte, reduceCtorEq, pappend, plen]) | (refine VCk.call (fun _ _ => mbs_ok _ _ _) rfl ?_; simp (maxSteps := 3000000) (disch := omega) only [go_sem, ↓reduceIte, reduceCtorEq, pappend, plen])))
    all_goals (simp_all [vsz, slot, Nat.beq] <;> first | rfl | omega | (rw [Bool.eq_iff_iff]; simp; done) | (rw [Bool.eq_iff_iff]; simp; omega))
  (repeat refine PW.seq ?_); refine PW.cond (t := _) rfl (fun h => ?_) (fun h => ?_)
  · have h1 : vsz s = false := by simpa using h
    (repeat refine PW.seq ?_); refine PW.rg rfl fun K hK => ?_; simp (maxSteps := 3000000) (disch := omega) only [go_sem, ↓reduceIte, reduceCtorEq, pappend, plen]; refine hK _ _ ?_; clear hK K
    exact PW.ret ⟨_, rfl, Fin.base (.id' (by simp [vseq, h1, slot, Nat.beq]) (.bool _))⟩
  have h1 : vsz s = true := by simpa using h
  refine PW.skip (PW.seq (PW.seq (PW.rgv [1] 44 (.bool (!vrt s)) rfl ?_ ?_)))
  · simp (maxSteps := 3000000) (disch := omega) only [go_sem, ↓reduceIte, reduceCtorEq, pappend, plen]; (repeat' (first | ((first | refine VO_cond (fun h => ?_) (fun h => ?_) | refine VOd_cond (fun h => ?_) (fun h => ?_) | refine VOg_cond (fun h => ?_) (fun h => ?_) | refine VOh_cond (fun h => ?_) (fun h => ?_) | refine VOi_cond (fun h => ?_) (fun h => ?_) | refine And.intro (fun h => ?_) (fun h => ?_)) <;> (try simp only [Bool.not_eq_true', Bool.not_eq_false', decide_eq_true_eq, decide_eq_false_iff_not] at h) <;> simp (maxSteps := 3000000) (disch := omega) only [go_sem, ↓reduceIte, reduceCtorEq, pappend, plen, h]) | (refine VCx.call (rat_ok _ _ _ hnum hden) rfl ?_; simp (maxSteps := 3000000) (disch := omega) only [go_sem, ↓reduceIte, reduceCtorEq, pappend, plen]) | (refine VCy.call (rat_ok _ _ _ hnum hden) rfl ?_; simp (maxSteps := 3000000) (disch := omega) only [go_sem, ↓reduceIte, reduceCtorEq, pappend, plen]) | (refine VCz.call (fun _ => rat_ok _ _ _ hnum hden) rfl ?_; simp (maxSteps := 3000000) (disch := omega) only [go_sem, ↓reduceIte, reduceCtorEq, pappend, plen]) | (refine VCk.call (fun _ _ => rat_ok _ _ _ hnum hden) rfl ?_; simp (maxSteps := 3000000) (disch := omega) only [go_sem, ↓reduceIte, reduceCtorEq, pappend, plen])))
    all_goals (simp_all [vrt, slot, Nat.beq] <;> first | rfl | omega | (rw [Bool.eq_iff_iff]; simp; done) | (rw [Bool.eq_iff_iff]; simp; omega))
  (repeat refine PW.seq ?_); refine PW.cond (t := _) rfl (fun h => ?_) (fun h => ?_)
  · have h2 : vrt s = false := by simpa using h
    (repeat refine PW.seq ?_); refine PW.rg rfl fun K hK => ?_; simp (maxSteps := 3000000) (disch := omega) only [go_sem, ↓reduceIte, reduceCtorEq, pappend, plen]; refine hK _ _ ?_; clear hK K
    exact PW.ret ⟨_, rfl, Fin.base (.id' (by simp [vseq, h1, h2, slot, Nat.beq]) (.bool _))⟩
  have h2 : vrt s = true := by simpa using h
  refine PW.skip (PW.seq (PW.seq (PW.rgv [1] 62 (.bool (!vbr s)) rfl ?_ ?_)))
  · simp (maxSteps := 3000000) (disch := omega) only [go_sem, ↓reduceIte, reduceCtorEq, pappend, plen]; (repeat' ((first | refine VO_cond (fun h => ?_) (fun h => ?_) | refine VOd_cond (fun h => ?_) (fun h => ?_) | refine VOg_cond (fun h => ?_) (fun h => ?_) | refine VOh_cond (fun h => ?_) (fun h => ?_) | refine VOi_cond (fun h => ?_) (fun h => ?_) | refine And.intro (fun h => ?_) (fun h => ?_)) <;> (try simp only [Bool.not_eq_true', Bool.not_eq_false', decide_eq_true_eq, decide_eq_false_iff_not] at h) <;> simp (maxSteps := 3000000) (disch := omega) only [go_sem, ↓reduceIte, reduceCtorEq, pappend, plen, h]))
    all_goals (simp_all [vbr, slot, Nat.beq] <;> first | rfl | omega | (rw [Bool.eq_iff_iff]; simp; done) | (rw [Bool.eq_iff_iff]; simp; omega))
  (repeat refine PW.seq ?_); refine PW.cond (t := _) rfl (fun h => ?_) (fun h => ?_)
  · have h3 : vbr s = false := by simpa using h
    (repeat refine PW.seq ?_); refine PW.rg rfl fun K hK => ?_; simp (maxSteps := 3000000) (disch := omega) only [go_sem, ↓reduceIte, reduceCtorEq, pappend, plen]; refine hK _ _ ?_; clear hK K
    exact PW.ret ⟨_, rfl, Fin.base (.id' (by simp [vseq, h1, h2, h3, slot, Nat.beq]) (.bool _))⟩
  have h3 : vbr s = true := by simpa using h
  have h2' := h2
  have h3' := h3
  simp only [vrt, vbr, Bool.and_eq_true, decide_eq_true_eq] at h2' h3'
  have hdp := ratOk_pos h2'.1.1.1
  have hb1 := prod_bd (a := 2 * s.num) (b := s.bf) (A := 2097152) (B := 8388608) (by omega) (by omega) (by omega) (by omega)
  have hb2 := prod_bd (a := 3 * s.den) (b := s.br) (A := 196608) (B := 16777216) (by omega) (by omega) (by omega) (by omega)
  refine PW.skip ?_
  (repeat refine PW.seq ?_); refine PW.rg rfl fun K hK => ?_; simp (maxSteps := 3000000) (disch := omega) only [go_sem, ↓reduceIte, reduceCtorEq, pappend, plen]; refine hK _ _ ?_; clear hK K
  (repeat refine PW.seq ?_); refine PW.cond (t := _) rfl (fun h => ?_) (fun h => ?_)
  · have h4 : vbu s = false := by have := of_decide_eq_true h; simp [vbu]; omega
    (repeat refine PW.seq ?_); refine PW.rg rfl fun K hK => ?_; simp (maxSteps := 3000000) (disch := omega) only [go_sem, ↓reduceIte, reduceCtorEq, pappend, plen]; refine hK _ _ ?_; clear hK K
    exact PW.ret ⟨_, rfl, Fin.base (.id' (by simp [vseq, h1, h2, h3, h4, slot, Nat.beq]) (.bool _))⟩
  have h4 : vbu s = true := by have := of_decide_eq_false h; simp [vbu]; omega
  refine PW.skip ?_
  (repeat refine PW.seq ?_); refine PW.rg rfl fun K hK => ?_; simp (maxSteps := 3000000) (disch := omega) only [go_sem, ↓reduceIte, reduceCtorEq, pappend, plen, sq_ia, sq_ie, sq_tk, List.length_append, length_bs]; (repeat' (first | ((first | refine VO_cond (fun h => ?_) (fun h => ?_) | refine VOd_cond (fun h => ?_) (fun h => ?_) | refine VOg_cond (fun h => ?_) (fun h => ?_) | refine VOh_cond (fun h => ?_) (fun h => ?_) | refine VOi_cond (fun h => ?_) (fun h => ?_) | refine And.intro (fun h => ?_) (fun h => ?_)) <;> (try simp only [Bool.not_eq_true', Bool.not_eq_false', decide_eq_true_eq, decide_eq_false_iff_not] at h) <;> simp (maxSteps := 3000000) (disch := omega) only [go_sem, ↓reduceIte, reduceCtorEq, pappend, plen, sq_ia, sq_ie, sq_tk, List.length_append, length_bs, h]) | (refine VCx.call (mx_ok _ _ hia) rfl ?_; simp (maxSteps := 3000000) (disch := omega) only [go_sem, ↓reduceIte, reduceCtorEq, pappend, plen, sq_ia, sq_ie, sq_tk, List.length_append, length_bs]) | (refine VCx.call (mx_ok _ _ hie) rfl ?_; simp (maxSteps := 3000000) (disch := omega) only [go_sem, ↓reduceIte, reduceCtorEq, pappend, plen, sq_ia, sq_ie, sq_tk, List.length_append, length_bs]) | (refine VCy.call (mx_ok _ _ hia) rfl ?_; simp (maxSteps := 3000000) (disch := omega) only [go_sem, ↓reduceIte, reduceCtorEq, pappend, plen, sq_ia, sq_ie, sq_tk, List.length_append, length_bs]) | (refine VCy.call (mx_ok _ _ hie) rfl ?_; simp (maxSteps := 3000000) (disch := omega) only [go_sem, ↓reduceIte, reduceCtorEq, pappend, plen, sq_ia, sq_ie, sq_tk, List.length_append, length_bs]) | (refine VCz.call (fun _ => mx_ok _ _ hia) rfl ?_; simp (maxSteps := 3000000) (disch := omega) only [go_sem, ↓reduceIte, reduceCtorEq, pappend, plen, sq_ia, sq_ie, sq_tk, List.length_append, length_bs]) | (refine VCz.call (fun _ => mx_ok _ _ hie) rfl ?_; simp (maxSteps := 3000000) (disch := omega) only [go_sem, ↓reduceIte, reduceCtorEq, pappend, plen, sq_ia, sq_ie, sq_tk, List.length_append, length_bs]) | (refine VCk.call (fun _ _ => mx_ok _ _ hia) rfl ?_; simp (maxSteps := 3000000) (disch := omega) only [go_sem, ↓reduceIte, reduceCtorEq, pappend, plen, sq_ia, sq_ie, sq_tk, List.length_append, length_bs]) | (refine VCk.call (fun _ _ => mx_ok _ _ hie) rfl ?_; simp (maxSteps := 3000000) (disch := omega) only [go_sem, ↓reduceIte, reduceCtorEq, pappend, plen, sq_ia, sq_ie, sq_tk, List.length_append, length_bs])))
  all_goals (refine hK _ _ ?_; clear hK K)
  all_goals exact PW.ret ⟨_, rfl, Fin.base (.id' (by simp_all [vseq, slot, Nat.beq]) (.bool _))⟩

theorem vseq_ref (s : Sq) (H : Heap) (hs : SqOk s) : CallOk Try.prog 22 [.agg (sqc s)] H (.bool (vseq s)) H := by
  obtain ⟨hw, hh, hnum, hden, hbr, hbf, hia, hie⟩ := hs
  have hall : (bs s.ia ++ bs s.ie).all PV.cell = true := by simp [bs, PV.cell]
  refine CallOk.body (F0 := [(0, .agg (sqc s))]) Try.func22 rfl Try.ntmps22 Try.results22 rfl (by kernel_rfl) rfl ?_
  (repeat refine PW.seq ?_); refine PW.rg rfl fun K hK => ?_; simp (maxSteps := 3000000) (disch := omega) only [go_sem, ↓reduceIte, reduceCtorEq, pappend, plen, sqc, hall]; refine hK _ _ ?_; clear hK K
  refine PW.seq (PW.seq (PW.rgv [1] 42 (.bool (!vsz s)) rfl ?_ ?_))
  · simp (maxSteps := 3000000) (disch := omega) only [go_sem, ↓reduceIte, reduceCtorEq, pappend, plen]; (repeat' ((first | refine VO_cond (fun h => ?_) (fun h => ?_) | refine VOd_cond (fun h => ?_) (fun h => ?_) | refine VOg_cond (fun h => ?_) (fun h => ?_) | refine VOh_cond (fun h => ?_) (fun h => ?_) | refine VOi_cond (fun h => ?_) (fun h => ?_) | refine And.intro (fun h => ?_) (fun h => ?_)) <;> (try simp only [Bool.not_eq_true', Bool.not_eq_false', decide_eq_true_eq, decide_eq_false_iff_not] at h) <;> simp (maxSteps := 3000000) (disch := omega) only [go_sem, ↓reduceIte, reduceCtorEq, pappend, plen, h]))
    all_goals (simp_all [vsz, mbs, slot, Nat.beq] <;> first | rfl | omega | (rw [Bool.eq_iff_iff]; simp; done) | (rw [Bool.eq_iff_iff]; simp; omega))
  (repeat refine PW.seq ?_); refine PW.cond (t := _) rfl (fun h => ?_) (fun h => ?_)
  · have h1 : vsz s = false := by simpa using h
    (repeat refine PW.seq ?_); refine PW.rg rfl fun K hK => ?_; simp (maxSteps := 3000000) (disch := omega) only [go_sem, ↓reduceIte, reduceCtorEq, pappend, plen]; refine hK _ _ ?_; clear hK K
    exact PW.ret ⟨_, rfl, Fin.base (.id' (by simp [vseq, h1, slot, Nat.beq]) (.bool _))⟩
  have h1 : vsz s = true := by simpa using h
  refine PW.skip (PW.seq (PW.seq (PW.rgv [1] 64 (.bool (!vrt s)) rfl ?_ ?_)))
  · simp (maxSteps := 3000000) (disch := omega) only [go_sem, ↓reduceIte, reduceCtorEq, pappend, plen]; (repeat' (first | ((first | refine VO_cond (fun h => ?_) (fun h => ?_) | refine VOd_cond (fun h => ?_) (fun h => ?_) | refine VOg_cond (fun h => ?_) (fun h => ?_) | refine VOh_cond (fun h => ?_) (fun h => ?_) | refine VOi_cond (fun h => ?_) (fun h => ?_) | refine And.intro (fun h => ?_) (fun h => ?_)) <;> (try simp only [Bool.not_eq_true', Bool.not_eq_false', decide_eq_true_eq, decide_eq_false_iff_not] at h) <;> simp (maxSteps := 3000000) (disch := omega) only [go_sem, ↓reduceIte, reduceCtorEq, pappend, plen, h]) | (refine VCx.call (rat_ref _ _ _ hnum hden) rfl ?_; simp (maxSteps := 3000000) (disch := omega) only [go_sem, ↓reduceIte, reduceCtorEq, pappend, plen]) | (refine VCy.call (rat_ref _ _ _ hnum hden) rfl ?_; simp (maxSteps := 3000000) (disch := omega) only [go_sem, ↓reduceIte, reduceCtorEq, pappend, plen]) | (refine VCz.call (fun _ => rat_ref _ _ _ hnum hden) rfl ?_; simp (maxSteps := 3000000) (disch := omega) only [go_sem, ↓reduceIte, reduceCtorEq, pappend, plen]) | (refine VCk.call (fun _ _ => rat_ref _ _ _ hnum hden) rfl ?_; simp (maxSteps := 3000000) (disch := omega) only [go_sem, ↓reduceIte, reduceCtorEq, pappend, plen])))
    all_goals (simp_all [vrt, slot, Nat.beq] <;> first | rfl | omega | (rw [Bool.eq_iff_iff]; simp; done) | (rw [Bool.eq_iff_iff]; simp; omega))
  (repeat refine PW.seq ?_); refine PW.cond (t := _) rfl (fun h => ?_) (fun h => ?_)
  · have h2 : vrt s = false := by simpa using h
    (repeat refine PW.seq ?_); refine PW.rg rfl fun K hK => ?_; simp (maxSteps := 3000000) (disch := omega) only [go_sem, ↓reduceIte, reduceCtorEq, pappend, plen]; refine hK _ _ ?_; clear hK K
    exact PW.ret ⟨_, rfl, Fin.base (.id' (by simp [vseq, h1, h2, slot, Nat.beq]) (.bool _))⟩
  have h2 : vrt s = true := by simpa using h
  refine PW.skip (PW.seq (PW.seq (PW.rgv [1] 82 (.bool (!vbr s)) rfl ?_ ?_)))
  · simp (maxSteps := 3000000) (disch := omega) only [go_sem, ↓reduceIte, reduceCtorEq, pappend, plen]; (repeat' ((first | refine VO_cond (fun h => ?_) (fun h => ?_) | refine VOd_cond (fun h => ?_) (fun h => ?_) | refine VOg_cond (fun h => ?_) (fun h => ?_) | refine VOh_cond (fun h => ?_) (fun h => ?_) | refine VOi_cond (fun h => ?_) (fun h => ?_) | refine And.intro (fun h => ?_) (fun h => ?_)) <;> (try simp only [Bool.not_eq_true', Bool.not_eq_false', decide_eq_true_eq, decide_eq_false_iff_not] at h) <;> simp (maxSteps := 3000000) (disch := omega) only [go_sem, ↓reduceIte, reduceCtorEq, pappend, plen, h]))
    all_goals (simp_all [vbr, slot, Nat.beq] <;> first | rfl | omega | (rw [Bool.eq_iff_iff]; simp; done) | (rw [Bool.eq_iff_iff]; simp; omega))
  (repeat refine PW.seq ?_); refine PW.cond (t := _) rfl (fun h => ?_) (fun h => ?_)
  · have h3 : vbr s = false := by simpa using h
    (repeat refine PW.seq ?_); refine PW.rg rfl fun K hK => ?_; simp (maxSteps := 3000000) (disch := omega) only [go_sem, ↓reduceIte, reduceCtorEq, pappend, plen]; refine hK _ _ ?_; clear hK K
    exact PW.ret ⟨_, rfl, Fin.base (.id' (by simp [vseq, h1, h2, h3, slot, Nat.beq]) (.bool _))⟩
  have h3 : vbr s = true := by simpa using h
  have h2' := h2
  have h3' := h3
  simp only [vrt, vbr, Bool.and_eq_true, decide_eq_true_eq] at h2' h3'
  have hdp := ratOk_pos h2'.1.1.1
  have hb1 := prod_bd (a := 2 * s.num) (b := s.bf) (A := 2097152) (B := 8388608) (by omega) (by omega) (by omega) (by omega)
  have hb2 := prod_bd (a := 3 * s.den) (b := s.br) (A := 196608) (B := 16777216) (by omega) (by omega) (by omega) (by omega)
  refine PW.skip ?_
  (repeat refine PW.seq ?_); refine PW.rg rfl fun K hK => ?_; simp (maxSteps := 3000000) (disch := omega) only [go_sem, ↓reduceIte, reduceCtorEq, pappend, plen]; refine hK _ _ ?_; clear hK K
  (repeat refine PW.seq ?_); refine PW.cond (t := _) rfl (fun h => ?_) (fun h => ?_)
  · have h4 : vbu s = false := by have := of_decide_eq_true h; simp [vbu]; omega
    (repeat refine PW.seq ?_); refine PW.rg rfl fun K hK => ?_; simp (maxSteps := 3000000) (disch := omega) only [go_sem, ↓reduceIte, reduceCtorEq, pappend, plen]; refine hK _ _ ?_; clear hK K
    exact PW.ret ⟨_, rfl, Fin.base (.id' (by simp [vseq, h1, h2, h3, h4, slot, Nat.beq]) (.bool _))⟩
  have h4 : vbu s = true := by have := of_decide_eq_false h; simp [vbu]; omega
  refine PW.skip ?_
  (repeat refine PW.seq ?_); refine PW.rg rfl fun K hK => ?_; simp (maxSteps := 3000000) (disch := omega) only [go_sem, ↓reduceIte, reduceCtorEq, pappend, plen, sq_ia, sq_ie, sq_tk, List.length_append, length_bs]; (repeat' (first | ((first | refine VO_cond (fun h => ?_) (fun h => ?_) | refine VOd_cond (fun h => ?_) (fun h => ?_) | refine VOg_cond (fun h => ?_) (fun h => ?_) | refine VOh_cond (fun h => ?_) (fun h => ?_) | refine VOi_cond (fun h => ?_) (fun h => ?_) | refine And.intro (fun h => ?_) (fun h => ?_)) <;> (try simp only [Bool.not_eq_true', Bool.not_eq_false', decide_eq_true_eq, decide_eq_false_iff_not] at h) <;> simp (maxSteps := 3000000) (disch := omega) only [go_sem, ↓reduceIte, reduceCtorEq, pappend, plen, sq_ia, sq_ie, sq_tk, List.length_append, length_bs, h]) | (refine VCx.call (mx_ref _ _ hia) rfl ?_; simp (maxSteps := 3000000) (disch := omega) only [go_sem, ↓reduceIte, reduceCtorEq, pappend, plen, sq_ia, sq_ie, sq_tk, List.length_append, length_bs]) | (refine VCx.call (mx_ref _ _ hie) rfl ?_; simp (maxSteps := 3000000) (disch := omega) only [go_sem, ↓reduceIte, reduceCtorEq, pappend, plen, sq_ia, sq_ie, sq_tk, List.length_append, length_bs]) | (refine VCy.call (mx_ref _ _ hia) rfl ?_; simp (maxSteps := 3000000) (disch := omega) only [go_sem, ↓reduceIte, reduceCtorEq, pappend, plen, sq_ia, sq_ie, sq_tk, List.length_append, length_bs]) | (refine VCy.call (mx_ref _ _ hie) rfl ?_; simp (maxSteps := 3000000) (disch := omega) only [go_sem, ↓reduceIte, reduceCtorEq, pappend, plen, sq_ia, sq_ie, sq_tk, List.length_append, length_bs]) | (refine VCz.call (fun _ => mx_ref _ _ hia) rfl ?_; simp (maxSteps := 3000000) (disch := omega) only [go_sem, ↓reduceIte, reduceCtorEq, pappend, plen, sq_ia, sq_ie, sq_tk, List.length_append, length_bs]) | (refine VCz.call (fun _ => mx_ref _ _ hie) rfl ?_; simp (maxSteps := 3000000) (disch := omega) only [go_sem, ↓reduceIte, reduceCtorEq, pappend, plen, sq_ia, sq_ie, sq_tk, List.length_append, length_bs]) | (refine VCk.call (fun _ _ => mx_ref _ _ hia) rfl ?_; simp (maxSteps := 3000000) (disch := omega) only [go_sem, ↓reduceIte, reduceCtorEq, pappend, plen, sq_ia, sq_ie, sq_tk, List.length_append, length_bs]) | (refine VCk.call (fun _ _ => mx_ref _ _ hie) rfl ?_; simp (maxSteps := 3000000) (disch := omega) only [go_sem, ↓reduceIte, reduceCtorEq, pappend, plen, sq_ia, sq_ie, sq_tk, List.length_append, length_bs])))
  all_goals (refine hK _ _ ?_; clear hK K)
  all_goals exact PW.ret ⟨_, rfl, Fin.base (.id' (by simp_all [vseq, slot, Nat.beq]) (.bool _))⟩

/-- A picture header. -/
structure Pi where
  ty : Int
  st : Int
  od : Int
  tf : Bool
  rp : Bool
  al : Bool
def pic (h : Pi) : List PV := [.int .i64 h.ty, .int .i64 h.st, .int .i64 h.od, .bool h.tf, .bool h.rp, .bool h.al]
def codd (h : Pi) : Bool := decide (0 ≤ h.od) && decide (h.od ≤ 1023) && decide (1 ≤ h.ty) && decide (h.ty ≤ 3) && decide (1 ≤ h.st) && decide (h.st ≤ 3)
theorem codd_ok (h : Pi) (H : Heap) : CallOk Try.prog 65 [.agg (pic h)] H (.bool (codd h)) H := by
  obtain ⟨ty, st, od, tf, rp, al⟩ := h
  refine CallOk.body (F0 := [(0, .agg (pic ⟨ty, st, od, tf, rp, al⟩))]) Try.func65 rfl Try.ntmps65 Try.results65 rfl (by kernel_rfl) rfl ?_
  (repeat' (first | refine PW.seq ?_ | refine PW.skip ?_ | refine PW.block ?_ | (refine PW.rg rfl fun K hK => ?_; simp (maxSteps := 3000000) (disch := omega) only [go_sem, ↓reduceIte, reduceCtorEq, pappend, plen, pic]) | (refine PW.draw mix (by kernel_rfl) fun K hK => ?_; simp (maxSteps := 3000000) (disch := omega) only [go_sem, ↓reduceIte, reduceCtorEq, pappend, plen, pic]) | (refine PW.drawg mix (by kernel_rfl) fun K hK => ?_; simp (maxSteps := 3000000) (disch := omega) only [go_sem, ↓reduceIte, reduceCtorEq, pappend, plen, pic]) | ((first | refine VO_cond (fun h => ?_) (fun h => ?_) | refine VOd_cond (fun h => ?_) (fun h => ?_) | refine VOg_cond (fun h => ?_) (fun h => ?_) | refine VOh_cond (fun h => ?_) (fun h => ?_) | refine VOi_cond (fun h => ?_) (fun h => ?_) | refine And.intro (fun h => ?_) (fun h => ?_)) <;> (try simp only [Bool.not_eq_true', Bool.not_eq_false', decide_eq_true_eq, decide_eq_false_iff_not] at h) <;> simp (maxSteps := 3000000) (disch := omega) only [go_sem, ↓reduceIte, reduceCtorEq, pappend, plen, pic, h]) | (refine hK _ _ ?_; clear hK K) | (refine PW.cond (t := _) rfl (fun h => ?_) (fun h => ?_) <;> (try (cases h; done)) <;> (try simp only [Bool.not_eq_true', Bool.not_eq_false', decide_eq_true_eq, decide_eq_false_iff_not] at h))))
  all_goals ((refine PW.ret ⟨_, rfl, ?_⟩; first | refine .inl ⟨?_, rfl⟩ | refine Fin.base (.id' ?_ (.bool _)) | refine Fin.base (.id' ?_ (.int _ _))); (simp_all [codd, slot, Nat.beq] <;> first | rfl | omega | (rw [Bool.eq_iff_iff]; simp; done) | (rw [Bool.eq_iff_iff]; simp; omega)))
theorem codd_ref (h : Pi) (H : Heap) : CallOk Try.prog 67 [.agg (pic h)] H (.bool (codd h)) H := by
  obtain ⟨ty, st, od, tf, rp, al⟩ := h
  refine CallOk.body (F0 := [(0, .agg (pic ⟨ty, st, od, tf, rp, al⟩))]) Try.func67 rfl Try.ntmps67 Try.results67 rfl (by kernel_rfl) rfl ?_
  (repeat' (first | refine PW.seq ?_ | refine PW.skip ?_ | refine PW.block ?_ | (refine PW.rg rfl fun K hK => ?_; simp (maxSteps := 3000000) (disch := omega) only [go_sem, ↓reduceIte, reduceCtorEq, pappend, plen, pic]) | (refine PW.draw mix (by kernel_rfl) fun K hK => ?_; simp (maxSteps := 3000000) (disch := omega) only [go_sem, ↓reduceIte, reduceCtorEq, pappend, plen, pic]) | (refine PW.drawg mix (by kernel_rfl) fun K hK => ?_; simp (maxSteps := 3000000) (disch := omega) only [go_sem, ↓reduceIte, reduceCtorEq, pappend, plen, pic]) | ((first | refine VO_cond (fun h => ?_) (fun h => ?_) | refine VOd_cond (fun h => ?_) (fun h => ?_) | refine VOg_cond (fun h => ?_) (fun h => ?_) | refine VOh_cond (fun h => ?_) (fun h => ?_) | refine VOi_cond (fun h => ?_) (fun h => ?_) | refine And.intro (fun h => ?_) (fun h => ?_)) <;> (try simp only [Bool.not_eq_true', Bool.not_eq_false', decide_eq_true_eq, decide_eq_false_iff_not] at h) <;> simp (maxSteps := 3000000) (disch := omega) only [go_sem, ↓reduceIte, reduceCtorEq, pappend, plen, pic, h]) | (refine hK _ _ ?_; clear hK K) | (refine PW.cond (t := _) rfl (fun h => ?_) (fun h => ?_) <;> (try (cases h; done)) <;> (try simp only [Bool.not_eq_true', Bool.not_eq_false', decide_eq_true_eq, decide_eq_false_iff_not] at h))))
  all_goals ((refine PW.ret ⟨_, rfl, ?_⟩; first | refine .inl ⟨?_, rfl⟩ | refine Fin.base (.id' ?_ (.bool _)) | refine Fin.base (.id' ?_ (.int _ _))); (simp_all [codd, slot, Nat.beq] <;> first | rfl | omega | (rw [Bool.eq_iff_iff]; simp; done) | (rw [Bool.eq_iff_iff]; simp; omega)))
def pvalid (s : Sq) (p : Pi) : Bool := vseq s && codd p && (s.il || ((p.st == 3) && p.tf && !p.rp))
theorem pvalid_ok (s : Sq) (p : Pi) (H : Heap) (hs : SqOk s) : CallOk Try.prog 23 [.agg (sqc s), .agg (pic p)] H (.bool (pvalid s p)) H := by
  have hall : (bs s.ia ++ bs s.ie).all PV.cell = true := by simp [bs, PV.cell]
  have hlen : (bs s.ia ++ bs s.ie).length = 128 := by simp [length_bs, hs.ia, hs.ie]
  have htk := sq_all s.ia s.ie hs.ia hs.ie
  refine CallOk.body (F0 := [(0, .agg (sqc s)), (1, .agg (pic p))]) Try.func23 rfl Try.ntmps23 Try.results23 rfl (by kernel_rfl) rfl ?_
  (repeat' (first | refine PW.seq ?_ | refine PW.skip ?_ | refine PW.block ?_ | (refine PW.rg rfl fun K hK => ?_; simp (maxSteps := 3000000) (disch := omega) only [go_sem, ↓reduceIte, reduceCtorEq, pappend, plen, sqc, pic, hall, hlen, htk]) | (refine PW.draw mix (by kernel_rfl) fun K hK => ?_; simp (maxSteps := 3000000) (disch := omega) only [go_sem, ↓reduceIte, reduceCtorEq, pappend, plen, sqc, pic, hall, hlen, htk]) | (refine PW.drawg mix (by kernel_rfl) fun K hK => ?_; simp (maxSteps := 3000000) (disch := omega) only [go_sem, ↓reduceIte, reduceCtorEq, pappend, plen, sqc, pic, hall, hlen, htk]) | ((first | refine VO_cond (fun h => ?_) (fun h => ?_) | refine VOd_cond (fun h => ?_) (fun h => ?_) | refine VOg_cond (fun h => ?_) (fun h => ?_) | refine VOh_cond (fun h => ?_) (fun h => ?_) | refine VOi_cond (fun h => ?_) (fun h => ?_) | refine And.intro (fun h => ?_) (fun h => ?_)) <;> (try simp only [Bool.not_eq_true', Bool.not_eq_false', decide_eq_true_eq, decide_eq_false_iff_not] at h) <;> simp (maxSteps := 3000000) (disch := omega) only [go_sem, ↓reduceIte, reduceCtorEq, pappend, plen, sqc, pic, hall, hlen, htk, h]) | (refine VCx.call (vseq_ok s _ hs) rfl ?_; simp (maxSteps := 3000000) (disch := omega) only [go_sem, ↓reduceIte, reduceCtorEq, pappend, plen, sqc, pic, hall, hlen, htk]) | (refine VCx.call (codd_ok p _) rfl ?_; simp (maxSteps := 3000000) (disch := omega) only [go_sem, ↓reduceIte, reduceCtorEq, pappend, plen, sqc, pic, hall, hlen, htk]) | (refine VCy.call (vseq_ok s _ hs) rfl ?_; simp (maxSteps := 3000000) (disch := omega) only [go_sem, ↓reduceIte, reduceCtorEq, pappend, plen, sqc, pic, hall, hlen, htk]) | (refine VCy.call (codd_ok p _) rfl ?_; simp (maxSteps := 3000000) (disch := omega) only [go_sem, ↓reduceIte, reduceCtorEq, pappend, plen, sqc, pic, hall, hlen, htk]) | (refine VCz.call (fun _ => vseq_ok s _ hs) rfl ?_; simp (maxSteps := 3000000) (disch := omega) only [go_sem, ↓reduceIte, reduceCtorEq, pappend, plen, sqc, pic, hall, hlen, htk]) | (refine VCz.call (fun _ => codd_ok p _) rfl ?_; simp (maxSteps := 3000000) (disch := omega) only [go_sem, ↓reduceIte, reduceCtorEq, pappend, plen, sqc, pic, hall, hlen, htk]) | (refine VCk.call (fun _ _ => vseq_ok s _ hs) rfl ?_; simp (maxSteps := 3000000) (disch := omega) only [go_sem, ↓reduceIte, reduceCtorEq, pappend, plen, sqc, pic, hall, hlen, htk]) | (refine VCk.call (fun _ _ => codd_ok p _) rfl ?_; simp (maxSteps := 3000000) (disch := omega) only [go_sem, ↓reduceIte, reduceCtorEq, pappend, plen, sqc, pic, hall, hlen, htk]) | (refine hK _ _ ?_; clear hK K) | (refine PW.cond (t := _) rfl (fun h => ?_) (fun h => ?_) <;> (try (cases h; done)) <;> (try simp only [Bool.not_eq_true', Bool.not_eq_false', decide_eq_true_eq, decide_eq_false_iff_not] at h))))
  all_goals ((refine PW.ret ⟨_, rfl, ?_⟩; first | refine .inl ⟨?_, rfl⟩ | refine Fin.base (.id' ?_ (.bool _)) | refine Fin.base (.id' ?_ (.int _ _))); (simp_all [pvalid, slot, Nat.beq] <;> first | rfl | omega | (rw [Bool.eq_iff_iff]; simp; done) | (rw [Bool.eq_iff_iff]; simp; omega)))
theorem pvalid_ref (s : Sq) (p : Pi) (H : Heap) (hs : SqOk s) : CallOk Try.prog 24 [.agg (sqc s), .agg (pic p)] H (.bool (pvalid s p)) H := by
  have hall : (bs s.ia ++ bs s.ie).all PV.cell = true := by simp [bs, PV.cell]
  have hlen : (bs s.ia ++ bs s.ie).length = 128 := by simp [length_bs, hs.ia, hs.ie]
  have htk := sq_all s.ia s.ie hs.ia hs.ie
  refine CallOk.body (F0 := [(0, .agg (sqc s)), (1, .agg (pic p))]) Try.func24 rfl Try.ntmps24 Try.results24 rfl (by kernel_rfl) rfl ?_
  (repeat' (first | refine PW.seq ?_ | refine PW.skip ?_ | refine PW.block ?_ | (refine PW.rg rfl fun K hK => ?_; simp (maxSteps := 3000000) (disch := omega) only [go_sem, ↓reduceIte, reduceCtorEq, pappend, plen, sqc, pic, hall, hlen, htk]) | (refine PW.draw mix (by kernel_rfl) fun K hK => ?_; simp (maxSteps := 3000000) (disch := omega) only [go_sem, ↓reduceIte, reduceCtorEq, pappend, plen, sqc, pic, hall, hlen, htk]) | (refine PW.drawg mix (by kernel_rfl) fun K hK => ?_; simp (maxSteps := 3000000) (disch := omega) only [go_sem, ↓reduceIte, reduceCtorEq, pappend, plen, sqc, pic, hall, hlen, htk]) | ((first | refine VO_cond (fun h => ?_) (fun h => ?_) | refine VOd_cond (fun h => ?_) (fun h => ?_) | refine VOg_cond (fun h => ?_) (fun h => ?_) | refine VOh_cond (fun h => ?_) (fun h => ?_) | refine VOi_cond (fun h => ?_) (fun h => ?_) | refine And.intro (fun h => ?_) (fun h => ?_)) <;> (try simp only [Bool.not_eq_true', Bool.not_eq_false', decide_eq_true_eq, decide_eq_false_iff_not] at h) <;> simp (maxSteps := 3000000) (disch := omega) only [go_sem, ↓reduceIte, reduceCtorEq, pappend, plen, sqc, pic, hall, hlen, htk, h]) | (refine VCx.call (vseq_ref s _ hs) rfl ?_; simp (maxSteps := 3000000) (disch := omega) only [go_sem, ↓reduceIte, reduceCtorEq, pappend, plen, sqc, pic, hall, hlen, htk]) | (refine VCx.call (codd_ref p _) rfl ?_; simp (maxSteps := 3000000) (disch := omega) only [go_sem, ↓reduceIte, reduceCtorEq, pappend, plen, sqc, pic, hall, hlen, htk]) | (refine VCy.call (vseq_ref s _ hs) rfl ?_; simp (maxSteps := 3000000) (disch := omega) only [go_sem, ↓reduceIte, reduceCtorEq, pappend, plen, sqc, pic, hall, hlen, htk]) | (refine VCy.call (codd_ref p _) rfl ?_; simp (maxSteps := 3000000) (disch := omega) only [go_sem, ↓reduceIte, reduceCtorEq, pappend, plen, sqc, pic, hall, hlen, htk]) | (refine VCz.call (fun _ => vseq_ref s _ hs) rfl ?_; simp (maxSteps := 3000000) (disch := omega) only [go_sem, ↓reduceIte, reduceCtorEq, pappend, plen, sqc, pic, hall, hlen, htk]) | (refine VCz.call (fun _ => codd_ref p _) rfl ?_; simp (maxSteps := 3000000) (disch := omega) only [go_sem, ↓reduceIte, reduceCtorEq, pappend, plen, sqc, pic, hall, hlen, htk]) | (refine VCk.call (fun _ _ => vseq_ref s _ hs) rfl ?_; simp (maxSteps := 3000000) (disch := omega) only [go_sem, ↓reduceIte, reduceCtorEq, pappend, plen, sqc, pic, hall, hlen, htk]) | (refine VCk.call (fun _ _ => codd_ref p _) rfl ?_; simp (maxSteps := 3000000) (disch := omega) only [go_sem, ↓reduceIte, reduceCtorEq, pappend, plen, sqc, pic, hall, hlen, htk]) | (refine hK _ _ ?_; clear hK K) | (refine PW.cond (t := _) rfl (fun h => ?_) (fun h => ?_) <;> (try (cases h; done)) <;> (try simp only [Bool.not_eq_true', Bool.not_eq_false', decide_eq_true_eq, decide_eq_false_iff_not] at h))))
  all_goals ((refine PW.ret ⟨_, rfl, ?_⟩; first | refine .inl ⟨?_, rfl⟩ | refine Fin.base (.id' ?_ (.bool _)) | refine Fin.base (.id' ?_ (.int _ _))); (simp_all [pvalid, slot, Nat.beq] <;> first | rfl | omega | (rw [Bool.eq_iff_iff]; simp; done) | (rw [Bool.eq_iff_iff]; simp; omega)))
theorem vseq_h {s : Sq} (h : vseq s = true) : 16 ≤ s.h ∧ s.h ≤ 64 ∧ 16 ≤ s.w ∧ s.w ≤ 64 := by
  simp [vseq, vsz, mbs] at h
  omega
theorem pvalid_h {s : Sq} {p : Pi} (hv : pvalid s p = true) : 16 ≤ s.h ∧ s.h ≤ 64 ∧ 16 ≤ s.w ∧ s.w ≤ 64 := by
  simp only [pvalid, Bool.and_eq_true] at hv
  exact vseq_h hv.1.1
def hgt (s : Sq) (p : Pi) : Int := if p.st = 3 then s.h else s.h.tdiv 2
theorem hgt_ok (s : Sq) (p : Pi) (H : Heap) (hs : SqOk s) (hv : 0 ≤ s.h) : CallOk Try.prog 82 [.agg (sqc s), .agg (pic p)] H (.int .i64 (hgt s p)) H := by
  have hall : (bs s.ia ++ bs s.ie).all PV.cell = true := by simp [bs, PV.cell]
  have hlen : (bs s.ia ++ bs s.ie).length = 128 := by simp [length_bs, hs.ia, hs.ie]
  have hh := hs.h
  refine CallOk.body (F0 := [(0, .agg (sqc s)), (1, .agg (pic p))]) Try.func82 rfl Try.ntmps82 Try.results82 rfl (by kernel_rfl) rfl ?_
  (repeat' (first | refine PW.seq ?_ | refine PW.skip ?_ | refine PW.block ?_ | (refine PW.rg rfl fun K hK => ?_; simp (maxSteps := 3000000) (disch := omega) only [go_sem, ↓reduceIte, reduceCtorEq, pappend, plen, sqc, pic, hall, hlen, wq64]) | (refine PW.draw mix (by kernel_rfl) fun K hK => ?_; simp (maxSteps := 3000000) (disch := omega) only [go_sem, ↓reduceIte, reduceCtorEq, pappend, plen, sqc, pic, hall, hlen, wq64]) | (refine PW.drawg mix (by kernel_rfl) fun K hK => ?_; simp (maxSteps := 3000000) (disch := omega) only [go_sem, ↓reduceIte, reduceCtorEq, pappend, plen, sqc, pic, hall, hlen, wq64]) | ((first | refine VO_cond (fun h => ?_) (fun h => ?_) | refine VOd_cond (fun h => ?_) (fun h => ?_) | refine VOg_cond (fun h => ?_) (fun h => ?_) | refine VOh_cond (fun h => ?_) (fun h => ?_) | refine VOi_cond (fun h => ?_) (fun h => ?_) | refine And.intro (fun h => ?_) (fun h => ?_)) <;> (try simp only [Bool.not_eq_true', Bool.not_eq_false', decide_eq_true_eq, decide_eq_false_iff_not] at h) <;> simp (maxSteps := 3000000) (disch := omega) only [go_sem, ↓reduceIte, reduceCtorEq, pappend, plen, sqc, pic, hall, hlen, wq64, h]) | (refine hK _ _ ?_; clear hK K) | (refine PW.cond (t := _) rfl (fun h => ?_) (fun h => ?_) <;> (try (cases h; done)) <;> (try simp only [Bool.not_eq_true', Bool.not_eq_false', decide_eq_true_eq, decide_eq_false_iff_not] at h))))
  all_goals ((refine PW.ret ⟨_, rfl, ?_⟩; first | refine .inl ⟨?_, rfl⟩ | refine Fin.base (.id' ?_ (.bool _)) | refine Fin.base (.id' ?_ (.int _ _))); (simp_all [hgt, slot, Nat.beq] <;> first | rfl | omega | (rw [Bool.eq_iff_iff]; simp; done) | (rw [Bool.eq_iff_iff]; simp; omega)))
def prows (s : Sq) (p : Pi) : Int := if pvalid s p then (if p.st = 3 then s.h.tdiv 16 else s.h.tdiv 32) else 0
theorem prows_ok (s : Sq) (p : Pi) (H : Heap) (hs : SqOk s) : CallOk Try.prog 25 [.agg (sqc s), .agg (pic p)] H (.int .i64 (prows s p)) H := by
  have hall : (bs s.ia ++ bs s.ie).all PV.cell = true := by simp [bs, PV.cell]
  have hlen : (bs s.ia ++ bs s.ie).length = 128 := by simp [length_bs, hs.ia, hs.ie]
  have htk := sq_all s.ia s.ie hs.ia hs.ie
  refine CallOk.body (F0 := [(0, .agg (sqc s)), (1, .agg (pic p))]) Try.func25 rfl Try.ntmps25 Try.results25 rfl (by kernel_rfl) rfl ?_
  cases hp : pvalid s p with
  | false =>
    have hpv := fun H => pvalid_ok s p H hs
    rw [hp] at hpv
    (repeat' (first | refine PW.seq ?_ | refine PW.skip ?_ | refine PW.block ?_ | (refine PW.rg rfl fun K hK => ?_; simp (maxSteps := 3000000) (disch := omega) only [go_sem, ↓reduceIte, reduceCtorEq, pappend, plen, sqc, pic, hall, hlen, htk]) | (refine PW.draw mix (by kernel_rfl) fun K hK => ?_; simp (maxSteps := 3000000) (disch := omega) only [go_sem, ↓reduceIte, reduceCtorEq, pappend, plen, sqc, pic, hall, hlen, htk]) | (refine PW.drawg mix (by kernel_rfl) fun K hK => ?_; simp (maxSteps := 3000000) (disch := omega) only [go_sem, ↓reduceIte, reduceCtorEq, pappend, plen, sqc, pic, hall, hlen, htk]) | ((first | refine VO_cond (fun h => ?_) (fun h => ?_) | refine VOd_cond (fun h => ?_) (fun h => ?_) | refine VOg_cond (fun h => ?_) (fun h => ?_) | refine VOh_cond (fun h => ?_) (fun h => ?_) | refine VOi_cond (fun h => ?_) (fun h => ?_) | refine And.intro (fun h => ?_) (fun h => ?_)) <;> (try simp only [Bool.not_eq_true', Bool.not_eq_false', decide_eq_true_eq, decide_eq_false_iff_not] at h) <;> simp (maxSteps := 3000000) (disch := omega) only [go_sem, ↓reduceIte, reduceCtorEq, pappend, plen, sqc, pic, hall, hlen, htk, h]) | (refine VCx.call (hpv _) rfl ?_; simp (maxSteps := 3000000) (disch := omega) only [go_sem, ↓reduceIte, reduceCtorEq, pappend, plen, sqc, pic, hall, hlen, htk]) | (refine VCy.call (hpv _) rfl ?_; simp (maxSteps := 3000000) (disch := omega) only [go_sem, ↓reduceIte, reduceCtorEq, pappend, plen, sqc, pic, hall, hlen, htk]) | (refine VCz.call (fun _ => hpv _) rfl ?_; simp (maxSteps := 3000000) (disch := omega) only [go_sem, ↓reduceIte, reduceCtorEq, pappend, plen, sqc, pic, hall, hlen, htk]) | (refine VCk.call (fun _ _ => hpv _) rfl ?_; simp (maxSteps := 3000000) (disch := omega) only [go_sem, ↓reduceIte, reduceCtorEq, pappend, plen, sqc, pic, hall, hlen, htk]) | (refine hK _ _ ?_; clear hK K) | (refine PW.cond (t := _) rfl (fun h => ?_) (fun h => ?_) <;> (try (cases h; done)) <;> (try simp only [Bool.not_eq_true', Bool.not_eq_false', decide_eq_true_eq, decide_eq_false_iff_not] at h))))
    all_goals ((refine PW.ret ⟨_, rfl, ?_⟩; first | refine .inl ⟨?_, rfl⟩ | refine Fin.base (.id' ?_ (.bool _)) | refine Fin.base (.id' ?_ (.int _ _))); simp [prows, hp, slot, Nat.beq])
  | true =>
    have hpv := fun H => pvalid_ok s p H hs
    rw [hp] at hpv
    have hh := pvalid_h hp
    have hg : 0 ≤ hgt s p ∧ hgt s p ≤ 64 := by
      unfold hgt; rw [tdiv_pos _ _ (by omega)]; split <;> omega
    (repeat' (first | refine PW.seq ?_ | refine PW.skip ?_ | refine PW.block ?_ | (refine PW.rg rfl fun K hK => ?_; simp (maxSteps := 3000000) (disch := omega) only [go_sem, ↓reduceIte, reduceCtorEq, pappend, plen, sqc, pic, hall, hlen, htk, wq64]) | (refine PW.draw mix (by kernel_rfl) fun K hK => ?_; simp (maxSteps := 3000000) (disch := omega) only [go_sem, ↓reduceIte, reduceCtorEq, pappend, plen, sqc, pic, hall, hlen, htk, wq64]) | (refine PW.drawg mix (by kernel_rfl) fun K hK => ?_; simp (maxSteps := 3000000) (disch := omega) only [go_sem, ↓reduceIte, reduceCtorEq, pappend, plen, sqc, pic, hall, hlen, htk, wq64]) | ((first | refine VO_cond (fun h => ?_) (fun h => ?_) | refine VOd_cond (fun h => ?_) (fun h => ?_) | refine VOg_cond (fun h => ?_) (fun h => ?_) | refine VOh_cond (fun h => ?_) (fun h => ?_) | refine VOi_cond (fun h => ?_) (fun h => ?_) | refine And.intro (fun h => ?_) (fun h => ?_)) <;> (try simp only [Bool.not_eq_true', Bool.not_eq_false', decide_eq_true_eq, decide_eq_false_iff_not] at h) <;> simp (maxSteps := 3000000) (disch := omega) only [go_sem, ↓reduceIte, reduceCtorEq, pappend, plen, sqc, pic, hall, hlen, htk, wq64, h]) | (refine VCx.call (hpv _) rfl ?_; simp (maxSteps := 3000000) (disch := omega) only [go_sem, ↓reduceIte, reduceCtorEq, pappend, plen, sqc, pic, hall, hlen, htk, wq64]) | (refine VCx.call (hgt_ok s p _ hs (by omega)) rfl ?_; simp (maxSteps := 3000000) (disch := omega) only [go_sem, ↓reduceIte, reduceCtorEq, pappend, plen, sqc, pic, hall, hlen, htk, wq64]) | (refine VCy.call (hpv _) rfl ?_; simp (maxSteps := 3000000) (disch := omega) only [go_sem, ↓reduceIte, reduceCtorEq, pappend, plen, sqc, pic, hall, hlen, htk, wq64]) | (refine VCy.call (hgt_ok s p _ hs (by omega)) rfl ?_; simp (maxSteps := 3000000) (disch := omega) only [go_sem, ↓reduceIte, reduceCtorEq, pappend, plen, sqc, pic, hall, hlen, htk, wq64]) | (refine VCz.call (fun _ => hpv _) rfl ?_; simp (maxSteps := 3000000) (disch := omega) only [go_sem, ↓reduceIte, reduceCtorEq, pappend, plen, sqc, pic, hall, hlen, htk, wq64]) | (refine VCz.call (fun _ => hgt_ok s p _ hs (by omega)) rfl ?_; simp (maxSteps := 3000000) (disch := omega) only [go_sem, ↓reduceIte, reduceCtorEq, pappend, plen, sqc, pic, hall, hlen, htk, wq64]) | (refine VCk.call (fun _ _ => hpv _) rfl ?_; simp (maxSteps := 3000000) (disch := omega) only [go_sem, ↓reduceIte, reduceCtorEq, pappend, plen, sqc, pic, hall, hlen, htk, wq64]) | (refine VCk.call (fun _ _ => hgt_ok s p _ hs (by omega)) rfl ?_; simp (maxSteps := 3000000) (disch := omega) only [go_sem, ↓reduceIte, reduceCtorEq, pappend, plen, sqc, pic, hall, hlen, htk, wq64]) | (refine hK _ _ ?_; clear hK K) | (refine PW.cond (t := _) rfl (fun h => ?_) (fun h => ?_) <;> (try (cases h; done)) <;> (try simp only [Bool.not_eq_true', Bool.not_eq_false', decide_eq_true_eq, decide_eq_false_iff_not] at h))))
    all_goals ((refine PW.ret ⟨_, rfl, ?_⟩; first | refine .inl ⟨?_, rfl⟩ | refine Fin.base (.id' ?_ (.bool _)) | refine Fin.base (.id' ?_ (.int _ _))); simp [prows, hp, slot, Nat.beq])
    simp only [hgt, tdiv_pos _ _ (show 0 ≤ s.h by omega)]
    rw [tdiv_pos _ _ (by split <;> omega)]
    split <;> omega
theorem prows_ref (s : Sq) (p : Pi) (H : Heap) (hs : SqOk s) : CallOk Try.prog 26 [.agg (sqc s), .agg (pic p)] H (.int .i64 (prows s p)) H := by
  have hall : (bs s.ia ++ bs s.ie).all PV.cell = true := by simp [bs, PV.cell]
  have hlen : (bs s.ia ++ bs s.ie).length = 128 := by simp [length_bs, hs.ia, hs.ie]
  have htk := sq_all s.ia s.ie hs.ia hs.ie
  refine CallOk.body (F0 := [(0, .agg (sqc s)), (1, .agg (pic p))]) Try.func26 rfl Try.ntmps26 Try.results26 rfl (by kernel_rfl) rfl ?_
  cases hp : pvalid s p with
  | false =>
    have hpv := fun H => pvalid_ref s p H hs
    rw [hp] at hpv
    (repeat' (first | refine PW.seq ?_ | refine PW.skip ?_ | refine PW.block ?_ | (refine PW.rg rfl fun K hK => ?_; simp (maxSteps := 3000000) (disch := omega) only [go_sem, ↓reduceIte, reduceCtorEq, pappend, plen, sqc, pic, hall, hlen, htk]) | (refine PW.draw mix (by kernel_rfl) fun K hK => ?_; simp (maxSteps := 3000000) (disch := omega) only [go_sem, ↓reduceIte, reduceCtorEq, pappend, plen, sqc, pic, hall, hlen, htk]) | (refine PW.drawg mix (by kernel_rfl) fun K hK => ?_; simp (maxSteps := 3000000) (disch := omega) only [go_sem, ↓reduceIte, reduceCtorEq, pappend, plen, sqc, pic, hall, hlen, htk]) | ((first | refine VO_cond (fun h => ?_) (fun h => ?_) | refine VOd_cond (fun h => ?_) (fun h => ?_) | refine VOg_cond (fun h => ?_) (fun h => ?_) | refine VOh_cond (fun h => ?_) (fun h => ?_) | refine VOi_cond (fun h => ?_) (fun h => ?_) | refine And.intro (fun h => ?_) (fun h => ?_)) <;> (try simp only [Bool.not_eq_true', Bool.not_eq_false', decide_eq_true_eq, decide_eq_false_iff_not] at h) <;> simp (maxSteps := 3000000) (disch := omega) only [go_sem, ↓reduceIte, reduceCtorEq, pappend, plen, sqc, pic, hall, hlen, htk, h]) | (refine VCx.call (hpv _) rfl ?_; simp (maxSteps := 3000000) (disch := omega) only [go_sem, ↓reduceIte, reduceCtorEq, pappend, plen, sqc, pic, hall, hlen, htk]) | (refine VCy.call (hpv _) rfl ?_; simp (maxSteps := 3000000) (disch := omega) only [go_sem, ↓reduceIte, reduceCtorEq, pappend, plen, sqc, pic, hall, hlen, htk]) | (refine VCz.call (fun _ => hpv _) rfl ?_; simp (maxSteps := 3000000) (disch := omega) only [go_sem, ↓reduceIte, reduceCtorEq, pappend, plen, sqc, pic, hall, hlen, htk]) | (refine VCk.call (fun _ _ => hpv _) rfl ?_; simp (maxSteps := 3000000) (disch := omega) only [go_sem, ↓reduceIte, reduceCtorEq, pappend, plen, sqc, pic, hall, hlen, htk]) | (refine hK _ _ ?_; clear hK K) | (refine PW.cond (t := _) rfl (fun h => ?_) (fun h => ?_) <;> (try (cases h; done)) <;> (try simp only [Bool.not_eq_true', Bool.not_eq_false', decide_eq_true_eq, decide_eq_false_iff_not] at h))))
    all_goals ((refine PW.ret ⟨_, rfl, ?_⟩; first | refine .inl ⟨?_, rfl⟩ | refine Fin.base (.id' ?_ (.bool _)) | refine Fin.base (.id' ?_ (.int _ _))); simp [prows, hp, slot, Nat.beq])
  | true =>
    have hpv := fun H => pvalid_ref s p H hs
    rw [hp] at hpv
    have hh := pvalid_h hp
    (repeat' (first | refine PW.seq ?_ | refine PW.skip ?_ | refine PW.block ?_ | (refine PW.rg rfl fun K hK => ?_; simp (maxSteps := 3000000) (disch := omega) only [go_sem, ↓reduceIte, reduceCtorEq, pappend, plen, sqc, pic, hall, hlen, htk, wq64]) | (refine PW.draw mix (by kernel_rfl) fun K hK => ?_; simp (maxSteps := 3000000) (disch := omega) only [go_sem, ↓reduceIte, reduceCtorEq, pappend, plen, sqc, pic, hall, hlen, htk, wq64]) | (refine PW.drawg mix (by kernel_rfl) fun K hK => ?_; simp (maxSteps := 3000000) (disch := omega) only [go_sem, ↓reduceIte, reduceCtorEq, pappend, plen, sqc, pic, hall, hlen, htk, wq64]) | ((first | refine VO_cond (fun h => ?_) (fun h => ?_) | refine VOd_cond (fun h => ?_) (fun h => ?_) | refine VOg_cond (fun h => ?_) (fun h => ?_) | refine VOh_cond (fun h => ?_) (fun h => ?_) | refine VOi_cond (fun h => ?_) (fun h => ?_) | refine And.intro (fun h => ?_) (fun h => ?_)) <;> (try simp only [Bool.not_eq_true', Bool.not_eq_false', decide_eq_true_eq, decide_eq_false_iff_not] at h) <;> simp (maxSteps := 3000000) (disch := omega) only [go_sem, ↓reduceIte, reduceCtorEq, pappend, plen, sqc, pic, hall, hlen, htk, wq64, h]) | (refine VCx.call (hpv _) rfl ?_; simp (maxSteps := 3000000) (disch := omega) only [go_sem, ↓reduceIte, reduceCtorEq, pappend, plen, sqc, pic, hall, hlen, htk, wq64]) | (refine VCy.call (hpv _) rfl ?_; simp (maxSteps := 3000000) (disch := omega) only [go_sem, ↓reduceIte, reduceCtorEq, pappend, plen, sqc, pic, hall, hlen, htk, wq64]) | (refine VCz.call (fun _ => hpv _) rfl ?_; simp (maxSteps := 3000000) (disch := omega) only [go_sem, ↓reduceIte, reduceCtorEq, pappend, plen, sqc, pic, hall, hlen, htk, wq64]) | (refine VCk.call (fun _ _ => hpv _) rfl ?_; simp (maxSteps := 3000000) (disch := omega) only [go_sem, ↓reduceIte, reduceCtorEq, pappend, plen, sqc, pic, hall, hlen, htk, wq64]) | (refine hK _ _ ?_; clear hK K) | (refine PW.cond (t := _) rfl (fun h => ?_) (fun h => ?_) <;> (try (cases h; done)) <;> (try simp only [Bool.not_eq_true', Bool.not_eq_false', decide_eq_true_eq, decide_eq_false_iff_not] at h))))
    all_goals ((refine PW.ret ⟨_, rfl, ?_⟩; first | refine .inl ⟨?_, rfl⟩ | refine Fin.base (.id' ?_ (.bool _)) | refine Fin.base (.id' ?_ (.int _ _))); (simp_all [prows, slot, Nat.beq] <;> first | rfl | omega | (rw [Bool.eq_iff_iff]; simp; done) | (rw [Bool.eq_iff_iff]; simp; omega)))

end Go.Proofs.Ytnjnikafhbholaa.Sc

namespace Go.Proofs.Ytnjnikafhbholaa.Lp
set_option linter.all false
set_option linter.unusedVariables false
set_option linter.unusedSimpArgs false
open Go.ChangeShapes Go.WideShapes Go.ChangeAt Go.RowKit Pm Sc

theorem own : ownKnob Try.prog.godebug = none := by kernel_rfl
theorem laidOut : laidOutB Try.prog = true := by kernel_rfl

theorem bytes_of {zs : List Int} (hw : ∀ z ∈ zs, (Lit.int .u8 z).wf = true) : ∃ p : List UInt8, zs.map (PV.int .u8) = bs p ∧ p.length = zs.length := by
  refine ⟨zs.map fun z => UInt8.ofNat z.toNat, ?_, by simp⟩
  simp only [bs, List.map_map]
  refine List.map_congr_left fun z hz => ?_
  have h1 := hw z hz
  simp [Lit.wf, IntKind.min, IntKind.max, IntKind.signed, IntKind.bits] at h1
  simp only [Function.comp, UInt8.toNat_ofNat']
  congr 1
  omega
theorem shp_bytes {ps : List PV} (h : Shp Try.prog 24 ps) : ∃ p : List UInt8, ps = [.slice (bs p) p.length false] := by
  obtain ⟨zs, rfl, _, hw⟩ := h.of_ints Try.underlying24 Try.underlying5
  obtain ⟨p, e, hl⟩ := bytes_of hw
  exact ⟨p, by rw [e, hl]⟩
theorem shp_mx {ps : List PV} (h : Shp Try.prog 37 ps) : ∃ p : List UInt8, ps = bs p ∧ p.length = 64 := by
  obtain ⟨zs, rfl, hl, hw⟩ := h.arr_ints Try.underlying37 Try.underlying5
  obtain ⟨p, e, hl'⟩ := bytes_of hw
  exact ⟨p, e, by omega⟩
theorem shp_int {ps : List PV} (h : Shp Try.prog 3 ps) : ∃ n : Int, ps = [.int .i64 n] ∧ (-9223372036854775808 ≤ n ∧ n ≤ 9223372036854775807) := by
  obtain ⟨n, rfl, hw⟩ := h.of_int Try.underlying3
  simp [Lit.wf, IntKind.min, IntKind.max, IntKind.signed, IntKind.bits] at hw
  exact ⟨n, rfl, hw⟩
theorem shp_int64 {ps : List PV} (h : Shp Try.prog 2 ps) : ∃ n : Int, ps = [.int .i64 n] ∧ (-9223372036854775808 ≤ n ∧ n ≤ 9223372036854775807) := by
  obtain ⟨n, rfl, hw⟩ := h.of_int Try.underlying2
  simp [Lit.wf, IntKind.min, IntKind.max, IntKind.signed, IntKind.bits] at hw
  exact ⟨n, rfl, hw⟩
theorem shp_bool {ps : List PV} (h : Shp Try.prog 4 ps) : ∃ b, ps = [.bool b] := h.of_bool Try.underlying4
theorem shp_rat {ps : List PV} (h : Shp Try.prog 36 ps) : ∃ a b : Int, ps = [.int .i64 a, .int .i64 b] ∧ (-9223372036854775808 ≤ a ∧ a ≤ 9223372036854775807) ∧ (-9223372036854775808 ≤ b ∧ b ≤ 9223372036854775807) := by
  obtain ⟨pss, rfl, hf⟩ := h.fields Try.underlying36
  match pss, hf with
  | [a, b], ⟨ha, hb, _⟩ =>
    obtain ⟨a, rfl, h1⟩ := shp_int64 ha
    obtain ⟨b, rfl, h2⟩ := shp_int64 hb
    exact ⟨a, b, rfl, h1, h2⟩
theorem shp_seq {ps : List PV} (h : Shp Try.prog 39 ps) : ∃ s : Sq, ps = sqc s ∧ SqOk s := by
  obtain ⟨pss, rfl, hf⟩ := h.fields Try.underlying39
  match pss, hf with
  | [a, b, c, d, e, f, g, k], ⟨ha, hb, hc, hd, he, hf, hg, hk, _⟩ =>
    obtain ⟨a, rfl, h1⟩ := shp_int ha
    obtain ⟨b, rfl, h2⟩ := shp_int hb
    obtain ⟨n, m, rfl, h3, h4⟩ := shp_rat hc
    obtain ⟨d, rfl⟩ := shp_bool hd
    obtain ⟨e, rfl, h5⟩ := shp_int he
    obtain ⟨f, rfl, h6⟩ := shp_int hf
    obtain ⟨p, rfl, h7⟩ := shp_mx hg
    obtain ⟨q, rfl, h8⟩ := shp_mx hk
    exact ⟨⟨a, b, n, m, d, e, f, p, q⟩, by simp [sqc], ⟨h1, h2, h3, h4, h5, h6, h7, h8⟩⟩
theorem shp_pic {ps : List PV} (h : Shp Try.prog 23 ps) : ∃ p : Pi, ps = pic p ∧ (-9223372036854775808 ≤ p.ty ∧ p.ty ≤ 9223372036854775807) ∧ (-9223372036854775808 ≤ p.st ∧ p.st ≤ 9223372036854775807) ∧ (-9223372036854775808 ≤ p.od ∧ p.od ≤ 9223372036854775807) := by
  obtain ⟨pss, rfl, hf⟩ := h.fields Try.underlying23
  match pss, hf with
  | [a, b, c, d, e, f], ⟨ha, hb, hc, hd, he, hf, _⟩ =>
    obtain ⟨a, rfl, h1⟩ := shp_int ha
    obtain ⟨b, rfl, h2⟩ := shp_int hb
    obtain ⟨c, rfl, h3⟩ := shp_int hc
    obtain ⟨d, rfl⟩ := shp_bool hd
    obtain ⟨e, rfl⟩ := shp_bool he
    obtain ⟨f, rfl⟩ := shp_bool hf
    exact ⟨⟨a, b, c, d, e, f⟩, rfl, h1, h2, h3⟩
theorem shp_unit {ps : List PV} (h : Shp Try.prog 26 ps) : ∃ (t : Int) (p : List UInt8), ps = [.int .i64 t, .slice (bs p) p.length false] ∧ (-9223372036854775808 ≤ t ∧ t ≤ 9223372036854775807) := by
  obtain ⟨pss, rfl, hf⟩ := h.fields Try.underlying26
  match pss, hf with
  | [a, b], ⟨ha, hb, _⟩ =>
    obtain ⟨a, rfl, h1⟩ := shp_int ha
    obtain ⟨p, rfl⟩ := shp_bytes hb
    exact ⟨a, p, rfl, h1⟩

end Go.Proofs.Ytnjnikafhbholaa.Lp

namespace Go.Proofs.Ytnjnikafhbholaa.Lo
set_option linter.all false
set_option linter.unusedVariables false
set_option linter.unusedSimpArgs false
open Go.ChangeShapes Go.WideShapes Go.ChangeAt Go.RowKit Pm Sc

theorem own : ownKnob Try.prog.godebug = none := by kernel_rfl
theorem laidOut : laidOutB Try.prog = true := by kernel_rfl

theorem bytes_of {zs : List Int} (hw : ∀ z ∈ zs, (Lit.int .u8 z).wf = true) : ∃ p : List UInt8, zs.map (PV.int .u8) = bs p ∧ p.length = zs.length := by
  refine ⟨zs.map fun z => UInt8.ofNat z.toNat, ?_, by simp⟩
  simp only [bs, List.map_map]
  refine List.map_congr_left fun z hz => ?_
  have h1 := hw z hz
  simp [Lit.wf, IntKind.min, IntKind.max, IntKind.signed, IntKind.bits] at h1
  simp only [Function.comp, UInt8.toNat_ofNat']
  congr 1
  omega
theorem shp_bytes {ps : List PV} (h : Shp Try.prog 24 ps) : ∃ p : List UInt8, ps = [.slice (bs p) p.length false] := by
  obtain ⟨zs, rfl, _, hw⟩ := h.of_ints Try.underlying24 Try.underlying5
  obtain ⟨p, e, hl⟩ := bytes_of hw
  exact ⟨p, by rw [e, hl]⟩
theorem shp_int {ps : List PV} (h : Shp Try.prog 3 ps) : ∃ n : Int, ps = [.int .i64 n] ∧ (-9223372036854775808 ≤ n ∧ n ≤ 9223372036854775807) := by
  obtain ⟨n, rfl, hw⟩ := h.of_int Try.underlying3
  simp [Lit.wf, IntKind.min, IntKind.max, IntKind.signed, IntKind.bits] at hw
  exact ⟨n, rfl, hw⟩
theorem shp_int64 {ps : List PV} (h : Shp Try.prog 2 ps) : ∃ n : Int, ps = [.int .i64 n] ∧ (-9223372036854775808 ≤ n ∧ n ≤ 9223372036854775807) := by
  obtain ⟨n, rfl, hw⟩ := h.of_int Try.underlying2
  simp [Lit.wf, IntKind.min, IntKind.max, IntKind.signed, IntKind.bits] at hw
  exact ⟨n, rfl, hw⟩
theorem shp_bool {ps : List PV} (h : Shp Try.prog 4 ps) : ∃ b, ps = [.bool b] := h.of_bool Try.underlying4
theorem shp_ints {ps : List PV} (h : Shp Try.prog 46 ps) : ∃ l : List Int, ps = [.slice (is l) l.length false] := by
  obtain ⟨zs, rfl, _, hw⟩ := h.of_ints Try.underlying46 Try.underlying3
  exact ⟨zs, rfl⟩

end Go.Proofs.Ytnjnikafhbholaa.Lo

namespace Go.Proofs.Ytnjnikafhbholaa.Pl
set_option linter.all false
set_option linter.unusedVariables false
set_option linter.unusedSimpArgs false

def ty (t : List Int) (k : Nat) : Int := t.getD k 0
/-- Is the last frame before k that is no B frame in the set? -/
def kn (t : List Int) : Nat → Bool
  | 0 => false
  | k + 1 => if ty t k = 3 then kn t k else (ty t k == 1 || (ty t k == 2 && kn t k))
/-- One behind the last frame before k that is no B frame. -/
def lst (t : List Int) : Nat → Nat
  | 0 => 0
  | k + 1 => if ty t k = 3 then lst t k else k + 1
/-- The set after i frames. -/
def arr (t : List Int) : Nat → Nat → Bool
  | 0, _ => false
  | i + 1, j => if ty t i = 3 then arr t i j else if j = i then kn t (i + 1) else if lst t i ≤ j ∧ j < i then (kn t i && kn t (i + 1)) else arr t i j

theorem lst_le (t : List Int) : ∀ k, lst t k ≤ k
  | 0 => Nat.le_refl _
  | k + 1 => by
    simp only [lst]
    split
    · have := lst_le t k; omega
    · exact Nat.le_refl _
theorem lst_b (t : List Int) : ∀ k m, lst t k ≤ m → m < k → ty t m = 3
  | 0, m, _, h => by omega
  | k + 1, m, h1, h2 => by
    simp only [lst] at h1
    split at h1
    · rename_i h
      by_cases hm : m = k
      · rw [hm]; exact h
      · exact lst_b t k m h1 (by omega)
    · omega
theorem lst_nb (t : List Int) : ∀ k, 0 < lst t k → ty t (lst t k - 1) ≠ 3
  | 0, h => by simp [lst] at h
  | k + 1, h => by
    simp only [lst] at h ⊢
    split
    · rename_i h3
      rw [if_pos h3] at h
      exact lst_nb t k h
    · rename_i h3; simpa using h3
theorem lst_ge (t : List Int) : ∀ k m, m < k → ty t m ≠ 3 → m < lst t k
  | 0, m, h, _ => by omega
  | k + 1, m, h, hm => by
    simp only [lst]
    split
    · rename_i h3
      have : m ≠ k := fun e => hm (e ▸ h3)
      exact lst_ge t k m (by omega) hm
    · omega
theorem kn_lst (t : List Int) : ∀ k, kn t k = if lst t k = 0 then false else kn t (lst t k)
  | 0 => by simp [kn, lst]
  | k + 1 => by
    by_cases h3 : ty t k = 3
    · simp only [lst, kn, if_pos h3]
      exact kn_lst t k
    · have e1 : lst t (k + 1) = k + 1 := by simp [lst, h3]
      rw [e1]; simp
theorem kn_run (t : List Int) (k : Nat) : ∀ j, k ≤ j → (∀ m, k ≤ m → m < j → ty t m = 3) → kn t j = kn t k
  | 0, h, _ => by rw [show k = 0 by omega]
  | j + 1, h, hb => by
    by_cases hk : k = j + 1
    · rw [hk]
    · have h3 : ty t j = 3 := hb j (by omega) (by omega)
      simp only [kn, if_pos h3]
      exact kn_run t k j (by omega) (fun m h1 h2 => hb m h1 (by omega))
theorem arr_nb (t : List Int) (k : Nat) (hk : ty t k ≠ 3) : ∀ i, k < i → arr t i k = kn t (k + 1)
  | 0, h => by omega
  | i + 1, h => by
    simp only [arr]
    by_cases hi : k = i
    · subst hi; simp [hk]
    · have hl := lst_ge t i k (by omega) hk
      split
      · exact arr_nb t k hk i (by omega)
      · first
          | (rw [if_neg hi, if_neg (by omega)]; exact arr_nb t k hk i (by omega))
          | (rw [if_neg (by omega)]; exact arr_nb t k hk i (by omega))
theorem arr_out (t : List Int) : ∀ i j, i ≤ j → arr t i j = false
  | 0, _, _ => rfl
  | i + 1, j, h => by
    simp only [arr]
    split
    · exact arr_out t i j (by omega)
    · rw [if_neg (by omega), if_neg (by omega)]; exact arr_out t i j (by omega)
theorem arr_b0 (t : List Int) (k : Nat) (hk : ty t k = 3) : ∀ i, (∀ m, k < m → m < i → ty t m = 3) → arr t i k = false
  | 0, _ => rfl
  | i + 1, h => by
    by_cases hi : i < k
    · exact arr_out t (i + 1) k (by omega)
    · simp only [arr]
      have h3 : ty t i = 3 := by
        by_cases e : i = k
        · rw [e]; exact hk
        · exact h i (by omega) (by omega)
      rw [if_pos h3]
      exact arr_b0 t k hk i (fun m h1 h2 => h m h1 (by omega))
theorem arr_b (t : List Int) (k j : Nat) (hk : ty t k = 3) (hj : k < j) (hn : ty t j ≠ 3) (hb : ∀ m, k < m → m < j → ty t m = 3) : ∀ i, j < i → arr t i k = (kn t j && kn t (j + 1))
  | 0, h => by omega
  | i + 1, h => by
    simp only [arr]
    by_cases hi : j = i
    · subst hi
      rw [if_neg hn, if_neg (by omega)]
      have hl : lst t j ≤ k := by
        rcases Nat.lt_or_ge k (lst t j) with h1 | h1
        · exfalso
          have h2 := lst_nb t j (by omega)
          have h4 := lst_le t j
          by_cases e : lst t j - 1 = k
          · exact h2 (e ▸ hk)
          · exact h2 (hb _ (by omega) (by omega))
        · exact h1
      rw [if_pos ⟨hl, hj⟩]
    · have hl := lst_ge t i j (by omega) hn
      split
      · exact arr_b t k j hk hj hn hb i (by omega)
      · rw [if_neg (by omega), if_neg (by omega)]; exact arr_b t k j hk hj hn hb i (by omega)

/-- The first frame from k on that is no B frame, or n. -/
def nbF (t : List Int) (n : Nat) : Nat → Nat → Nat
  | 0, k => k
  | f + 1, k => if k < n ∧ ty t k = 3 then nbF t n f (k + 1) else k
def nb (t : List Int) (n k : Nat) : Nat := nbF t n (n - k) k
theorem nbF_spec (t : List Int) (n : Nat) : ∀ f k, k + f = n → k ≤ nbF t n f k ∧ nbF t n f k ≤ n ∧ (∀ m, k ≤ m → m < nbF t n f k → ty t m = 3) ∧ (nbF t n f k < n → ty t (nbF t n f k) ≠ 3)
  | 0, k, h => ⟨Nat.le_refl _, by simp only [nbF]; omega, fun m h1 h2 => by simp only [nbF] at h2; omega, fun h1 => by simp only [nbF] at h1; omega⟩
  | f + 1, k, h => by
    simp only [nbF]
    split
    · rename_i h3
      obtain ⟨q1, q2, q3, q4⟩ := nbF_spec t n f (k + 1) (by omega)
      refine ⟨by omega, q2, fun m h1 h2 => ?_, q4⟩
      by_cases e : m = k
      · rw [e]; exact h3.2
      · exact q3 m (by omega) h2
    · rename_i h3
      exact ⟨Nat.le_refl _, by omega, fun m h1 h2 => by omega, fun h1 e => h3 ⟨h1, e⟩⟩
theorem nb_spec (t : List Int) (n k : Nat) (h : k ≤ n) : k ≤ nb t n k ∧ nb t n k ≤ n ∧ (∀ m, k ≤ m → m < nb t n k → ty t m = 3) ∧ (nb t n k < n → ty t (nb t n k) ≠ 3) := nbF_spec t n (n - k) k (by omega)

/-- Are the references of frame k in a set? -/
def kept (t : List Int) (n : Nat) (S : Nat → Bool) (k : Nat) : Bool :=
  if ty t k = 1 then true
  else if ty t k = 2 then decide (0 < lst t k) && S (lst t k - 1)
  else if ty t k = 3 then decide (0 < lst t k) && (decide (nb t n (k + 1) < n) && (S (lst t k - 1) && S (nb t n (k + 1))))
  else false

theorem arr_kept (t : List Int) (n k : Nat) (hk : k < n) : arr t n k = kept t n (arr t n) k := by
  unfold kept
  have hlast : 0 < lst t k → arr t n (lst t k - 1) = kn t k := fun h => by
    have h1 := lst_nb t k h
    have h2 := lst_le t k
    rw [arr_nb t _ h1 n (by omega), kn_lst t k, if_neg (by omega), show lst t k - 1 + 1 = lst t k by omega]
  have hzero : ¬ 0 < lst t k → kn t k = false := fun h => by rw [kn_lst t k, if_pos (by omega)]
  by_cases h3 : ty t k = 3
  · rw [if_neg (by omega), if_neg (by omega), if_pos h3]
    obtain ⟨q1, q2, q3, q4⟩ := nb_spec t n (k + 1) (by omega)
    by_cases hj : nb t n (k + 1) < n
    · rw [arr_b t k _ h3 (by omega) (q4 hj) (fun m h1 h2 => q3 m (by omega) h2) n hj, arr_nb t _ (q4 hj) n hj]
      have e : kn t (nb t n (k + 1)) = kn t k := kn_run t k _ (by omega) (fun m h1 h2 => by
        by_cases e : m = k
        · rw [e]; exact h3
        · exact q3 m (by omega) h2)
      rw [e]
      by_cases hl : 0 < lst t k
      · rw [hlast hl]; simp [hl, hj]
      · rw [hzero hl]; simp [hl]
    · rw [arr_b0 t k h3 n (fun m h1 h2 => q3 m (by omega) (by omega))]
      simp [hj]
  · rw [arr_nb t k h3 n hk]
    simp only [kn, if_neg h3]
    by_cases h1 : ty t k = 1
    · simp [h1]
    · by_cases h2 : ty t k = 2
      · rw [if_neg h1, if_pos h2]
        by_cases hl : 0 < lst t k
        · rw [hlast hl]; simp [h2, hl]
        · rw [hzero hl]; simp [h2, hl]
      · simp [h1, h2]

def Closed (t : List Int) (n : Nat) (S : Nat → Bool) : Prop := ∀ k, k < n → S k = true → kept t n S k = true
theorem arr_closed (t : List Int) (n : Nat) : Closed t n (arr t n) := fun k hk h => by rw [← arr_kept t n k hk]; exact h
/-- ████ It is the greatest closed set. ████ -/
theorem arr_great (t : List Int) (n : Nat) (S : Nat → Bool) (h : Closed t n S) : ∀ k, k < n → S k = true → arr t n k = true := by
  have nonb : ∀ k, k < n → ty t k ≠ 3 → S k = true → arr t n k = true := by
    intro k
    induction k using Nat.strongRecOn with
    | _ k ih =>
      intro hk h3 hS
      have := h k hk hS
      rw [arr_kept t n k hk]
      unfold kept at this ⊢
      split
      · rfl
      · rename_i h1
        rw [if_neg h1] at this
        split
        · rename_i h2
          rw [if_pos h2] at this
          simp only [Bool.and_eq_true, decide_eq_true_eq] at this ⊢
          have hle := lst_le t k
          exact ⟨this.1, ih (lst t k - 1) (by omega) (by omega) (lst_nb t k this.1) this.2⟩
        · rename_i h2
          rw [if_neg h2, if_neg h3] at this
          cases this
  intro k hk hS
  by_cases h3 : ty t k = 3
  · have := h k hk hS
    rw [arr_kept t n k hk]
    unfold kept at this ⊢
    rw [if_neg (by omega), if_neg (by omega), if_pos h3] at this ⊢
    simp only [Bool.and_eq_true, decide_eq_true_eq] at this ⊢
    obtain ⟨a1, a2, a3, a4⟩ := this
    have hle := lst_le t k
    obtain ⟨q1, q2, q3, q4⟩ := nb_spec t n (k + 1) (by omega)
    exact ⟨a1, a2, nonb _ (by omega) (lst_nb t k a1) a3, nonb _ a2 (q4 a2) a4⟩
  · exact nonb k hk h3 hS

/-! ### the closed form, of types 1, 2 and 3 -/
def fi (t : List Int) : Nat → Int
  | 0 => -1
  | i + 1 => if ty t i = 1 ∧ fi t i < 0 then (i : Int) else fi t i
def la (t : List Int) : Nat → Int
  | 0 => -1
  | i + 1 => if ty t i ≠ 3 ∧ 0 ≤ fi t (i + 1) then (i : Int) else la t i
theorem fi_lt (t : List Int) : ∀ i, -1 ≤ fi t i ∧ fi t i < i
  | 0 => by simp [fi]
  | i + 1 => by
    have := fi_lt t i
    simp only [fi]
    split <;> omega
theorem fi_ty (t : List Int) : ∀ i, 0 ≤ fi t i → ty t (fi t i).toNat = 1
  | 0, h => by simp [fi] at h
  | i + 1, h => by
    simp only [fi] at h ⊢
    split
    · rename_i h1; simpa using h1.1
    · rename_i h1; rw [if_neg h1] at h; exact fi_ty t i h
theorem fi_mono (t : List Int) (i : Nat) (h : 0 ≤ fi t i) : ∀ d, fi t (i + d) = fi t i
  | 0 => rfl
  | d + 1 => by
    have := fi_mono t i h d
    show fi t (i + d + 1) = _
    simp only [fi]
    rw [if_neg (by omega), this]
theorem fi_back (t : List Int) (n : Nat) (h : 0 ≤ fi t n) (m : Nat) (h1 : fi t n < m) (h2 : m ≤ n) : 0 ≤ fi t m := by
  induction n with
  | zero => have := fi_lt t 0; omega
  | succ n ih =>
    by_cases e : m = n + 1
    · rw [e]; exact h
    · simp only [fi] at h h1
      split at h
      · rename_i hq; rw [if_pos hq] at h1; omega
      · rename_i hq; rw [if_neg hq] at h1; exact ih h h1 (by omega)
theorem kn_fi (t : List Int) (n : Nat) (ht : ∀ k, k < n → ty t k = 1 ∨ ty t k = 2 ∨ ty t k = 3) : ∀ i, i ≤ n → kn t i = decide (0 ≤ fi t i)
  | 0, _ => by simp [kn, fi]
  | i + 1, h => by
    have ih := kn_fi t n ht i (by omega)
    rcases ht i (by omega) with h1 | h1 | h1
    · have e1 : kn t (i + 1) = true := by simp [kn, h1]
      have e2 : 0 ≤ fi t (i + 1) := by
        simp only [fi]
        split <;> omega
      rw [e1]; simp [e2]
    · have e1 : kn t (i + 1) = kn t i := by simp [kn, h1]
      have e2 : fi t (i + 1) = fi t i := by simp [fi, h1]
      rw [e1, e2, ih]
    · have e1 : kn t (i + 1) = kn t i := by simp [kn, h1]
      have e2 : fi t (i + 1) = fi t i := by simp [fi, h1]
      rw [e1, e2, ih]
theorem la_lt (t : List Int) : ∀ i, -1 ≤ la t i ∧ la t i < i
  | 0 => by simp [la]
  | i + 1 => by
    have := la_lt t i
    simp only [la]
    split <;> omega
theorem la_nb (t : List Int) : ∀ i, 0 ≤ la t i → ty t (la t i).toNat ≠ 3
  | 0, h => by simp [la] at h
  | i + 1, h => by
    simp only [la] at h ⊢
    split
    · rename_i h1; simpa using h1.1
    · rename_i h1; rw [if_neg h1] at h; exact la_nb t i h
theorem la_ge (t : List Int) (j : Nat) (hj : ty t j ≠ 3) (hf : 0 ≤ fi t (j + 1)) : ∀ i, j < i → (j : Int) ≤ la t i
  | 0, h => by omega
  | i + 1, h => by
    simp only [la]
    by_cases e : j = i
    · subst e; rw [if_pos ⟨hj, hf⟩]; omega
    · have := la_ge t j hj hf i (by omega)
      split <;> omega
/-- ████ Of consecutive frames those from the first I frame to the last other than B at or after it. ████ -/
theorem closed_form (t : List Int) (n : Nat) (ht : ∀ k, k < n → ty t k = 1 ∨ ty t k = 2 ∨ ty t k = 3) (k : Nat) (hk : k < n) : arr t n k = decide (0 ≤ fi t n ∧ fi t n ≤ k ∧ (k : Int) ≤ la t n) := by
  have hfl := fi_lt t n
  have hll := la_lt t n
  rw [Bool.eq_iff_iff, decide_eq_true_eq]
  by_cases h3 : ty t k = 3
  · obtain ⟨q1, q2, q3, q4⟩ := nb_spec t n (k + 1) (by omega)
    by_cases hj : nb t n (k + 1) < n
    · rw [arr_b t k _ h3 (by omega) (q4 hj) (fun m h1 h2 => q3 m (by omega) h2) n hj]
      have e : kn t (nb t n (k + 1)) = kn t k := kn_run t k _ (by omega) (fun m h1 h2 => by
        by_cases e : m = k
        · rw [e]; exact h3
        · exact q3 m (by omega) h2)
      rw [e, kn_fi t n ht k (by omega), kn_fi t n ht _ (by omega : nb t n (k + 1) + 1 ≤ n)]
      simp only [Bool.and_eq_true, decide_eq_true_eq]
      constructor
      · rintro ⟨h1, h2⟩
        have e1 := fi_mono t k h1 (n - k)
        rw [show k + (n - k) = n by omega] at e1
        have := fi_lt t k
        have := la_ge t _ (q4 hj) h2 n hj
        omega
      · rintro ⟨h1, h2, h4⟩
        have hne : fi t n ≠ k := fun e => by
          have := fi_ty t n h1
          rw [e] at this
          simp at this
          omega
        have h5 := fi_back t n h1 k (by omega) (by omega)
        exact ⟨h5, fi_back t n h1 _ (by omega) (by omega)⟩
    · rw [arr_b0 t k h3 n (fun m h1 h2 => q3 m (by omega) (by omega))]
      constructor
      · intro h; cases h
      · rintro ⟨h1, h2, h4⟩
        exfalso
        have h5 := la_nb t n (by omega)
        by_cases e : (la t n).toNat = k
        · exact h5 (e ▸ h3)
        · exact h5 (q3 _ (by omega) (by omega))
  · rw [arr_nb t k h3 n hk, kn_fi t n ht (k + 1) (by omega), decide_eq_true_eq]
    constructor
    · intro h1
      have e1 := fi_mono t (k + 1) h1 (n - (k + 1))
      rw [show k + 1 + (n - (k + 1)) = n by omega] at e1
      have := fi_lt t (k + 1)
      have := la_ge t k h3 h1 n hk
      omega
    · rintro ⟨h1, h2, h4⟩
      exact fi_back t n h1 (k + 1) (by omega) (by omega)

end Go.Proofs.Ytnjnikafhbholaa.Pl

namespace Go.Proofs.Ytnjnikafhbholaa.Sc
set_option linter.all false
set_option linter.unusedVariables false
set_option linter.unusedSimpArgs false
open Pm Ty Pl Go.RowKit

/-- Ways that meet again, where the step is already parted. -/
theorem _root_.Go.Proofs.Ytnjnikafhbholaa.Pm.PW.meet {P : Program} {E : Env} {Q : Exit → Fr → Heap → Prop} {F : Fr} {H : Heap} {x y : Code} (ks : List Nat) (F1 : Fr) (H1 : Heap) (h : PW P E x F H (thenQ (fun F' H' => kp ks F' = F1 ∧ H' = H1) Q)) (hj : PW P E y F1 H1 Q) : PW P E x F H (thenQ (fun F' H' => PW P E y F' H' Q) Q) :=
  h.mono fun e F' H' hq => by
    cases e with
    | normal => exact PW.keep ks (by rw [hq.1, hq.2]; exact hj)
    | _ => exact hq
/-- A set of frames as flags. -/
def rg (n : Nat) (g : Nat → Bool) : List Bool := (List.range n).map g
theorem rg_len (n : Nat) (g : Nat → Bool) : (rg n g).length = n := by simp [rg]
theorem rg_get (n : Nat) (g : Nat → Bool) (i : Nat) (h : i < n) : flagAt (rg n g) i = g i := by simp [flagAt, rg, h]
theorem rg_cell (n : Nat) (g : Nat → Bool) (i : Nat) (h : i < n) : (fs (rg n g))[i]? = some (.bool (g i)) := by rw [fs_get _ _ (by rw [rg_len]; exact h), rg_get n g i h]
theorem rg_ext (n : Nat) {g g' : Nat → Bool} (h : ∀ i, i < n → g i = g' i) : rg n g = rg n g' := List.map_congr_left fun i hi => h i (List.mem_range.1 hi)
theorem rg_set (n : Nat) (g : Nat → Bool) (i : Nat) (v : Bool) : (fs (rg n g)).set i (.bool v) = fs (rg n fun j => if j = i then v else g j) := by
  rw [fs_set]
  congr 1
  apply List.ext_getElem?
  intro j
  rw [List.getElem?_set]
  by_cases hj : j < n
  · by_cases e : i = j
    · subst e; simp [rg, hj]
    · simp [rg, hj, e, Ne.symm e]
  · have h1 : (rg n fun j => if j = i then v else g j)[j]? = none := List.getElem?_eq_none (by rw [rg_len]; omega)
    have h2 : (rg n g)[j]? = none := List.getElem?_eq_none (by rw [rg_len]; omega)
    rw [h1, h2]
    split
    · rw [if_neg (by rw [rg_len]; omega)]
    · rfl
theorem rg_false (n : Nat) : fs (rg n fun _ => false) = reps n [.bool false] := by
  have h1 : reps n [PV.bool false] = List.replicate n (.bool false) := by
    induction n with
    | zero => rfl
    | succ n ih => rw [List.replicate_succ, ← ih]; simp [reps, List.replicate_succ]
  rw [h1]
  apply List.ext_getElem?
  intro j
  by_cases hj : j < n
  · simp [fs, rg, hj]
  · simp [fs, rg, hj]
theorem intAt_ty (t : List Int) (k : Nat) : intAt t k = ty t k := rfl

theorem arr_past (t : List Int) (i j : Nat) (h1 : lst t i ≤ j) (h2 : j < i) : arr t i j = false :=
  arr_b0 t j (lst_b t i j h1 h2) i (fun m h3 h4 => lst_b t i m (by omega) h4)
theorem arr_last (t : List Int) (i : Nat) (h : 0 < lst t i) : arr t i (lst t i - 1) = kn t i := by
  have h1 := lst_nb t i h
  have h2 := lst_le t i
  rw [arr_nb t _ h1 i (by omega), kn_lst t i, if_neg (by omega), show lst t i - 1 + 1 = lst t i by omega]
theorem kn_zero (t : List Int) (i : Nat) (h : lst t i = 0) : kn t i = false := by rw [kn_lst t i, if_pos h]

theorem copy_ok (t : List Int) (f : Bool) (H : Heap) (hl : t.length ≤ 1000000) : CallOk Try.prog 36 [.slice (is t) t.length f] H (.slice (fs (rg t.length (arr t t.length))) t.length false) H := by
  refine CallOk.body (F0 := [(0, .slice (is t) t.length f)]) Try.func36 rfl Try.ntmps36 Try.results36 rfl (by kernel_rfl) rfl ?_
  (repeat refine PW.seq ?_); refine PW.rg rfl fun K hK => ?_; simp (maxSteps := 3000000) (disch := omega) only [go_sem, ↓reduceIte, reduceCtorEq, pappend, plen]; refine hK _ _ ?_; clear hK K
  refine PW.scope ?_
  (repeat refine PW.seq ?_); refine PW.rg rfl fun K hK => ?_; simp (maxSteps := 3000000) (disch := omega) only [go_sem, ↓reduceIte, reduceCtorEq, pappend, plen]; refine hK _ _ ?_; clear hK K; (repeat refine PW.seq ?_); refine PW.rg rfl fun K hK => ?_; simp (maxSteps := 3000000) (disch := omega) only [go_sem, ↓reduceIte, reduceCtorEq, pappend, plen]; refine hK _ _ ?_; clear hK K
  (repeat refine PW.seq ?_); refine PW.label ?_
  (repeat refine PW.seq ?_); refine PW.rg rfl fun K hK => ?_; simp (maxSteps := 3000000) (disch := omega) only [go_sem, ↓reduceIte, reduceCtorEq, pappend, plen]; refine hK _ _ ?_; clear hK K
  (repeat refine PW.seq ?_); refine PW.block (PW.loop ?_)
  suffices hloop : ∀ i, i ≤ t.length → PL Try.prog _ _ [(3, .msl H.length 0 0 t.length 1 true), (4, .int .i64 ((lst t i : Int) - 1)), (13, .slice (is t) t.length f), (14, .int .i64 (t.length : Int)), (15, .int .i64 (i : Int))] (H ++ [⟨4, 0, fs (rg t.length (arr t i))⟩]) _ by
    exact PL.at [3, 4, 13, 14, 15] (hloop 0 (Nat.zero_le _)) rfl (by rw [show arr t 0 = fun _ => false from rfl, rg_false]; rfl)
  intro i hi
  induction hm : t.length - i using Nat.strongRecOn generalizing i with
  | _ m ih =>
    refine PL.round ?_; (repeat refine PW.seq ?_); refine PW.rg rfl fun K hK => ?_; simp (maxSteps := 3000000) (disch := omega) only [go_sem, ↓reduceIte, reduceCtorEq, pappend, plen]; refine hK _ _ ?_; clear hK K
    (repeat refine PW.seq ?_); refine PW.cond (t := _) rfl (fun h => ?_) (fun h => ?_)
    · have h4 : i < t.length := by have := of_decide_eq_true h; omega
      have hll := lst_le t i
      have hnext := ih (t.length - (i + 1)) (by omega) (i + 1) (by omega) rfl
      refine PW.skip ?_
      refine PW.to [3, 4, 13, 14, 15] [(3, .msl H.length 0 0 t.length 1 true), (4, .int .i64 ((lst t (i + 1) : Int) - 1)), (13, .slice (is t) t.length f), (14, .int .i64 (t.length : Int)), (15, .int .i64 (i : Int))] (H ++ [⟨4, 0, fs (rg t.length (arr t (i + 1)))⟩]) ?_ ?_
      rotate_left
      · (repeat refine PW.seq ?_); refine PW.rg rfl fun K hK => ?_; simp (maxSteps := 3000000) (disch := omega) only [go_sem, ↓reduceIte, reduceCtorEq, pappend, plen]; refine hK _ _ ?_; clear hK K
        exact PL.at [3, 4, 13, 14, 15] hnext rfl rfl
      (repeat refine PW.seq ?_); refine PW.block ?_
      (repeat refine PW.seq ?_); refine PW.rg rfl fun K hK => ?_; simp (maxSteps := 3000000) (disch := omega) only [go_sem, ↓reduceIte, reduceCtorEq, pappend, plen, is_get, is_len, intAt_ty]; refine hK _ _ ?_; clear hK K
      (repeat refine PW.seq ?_); refine PW.rg rfl fun K hK => ?_; simp (maxSteps := 3000000) (disch := omega) only [go_sem, ↓reduceIte, reduceCtorEq, pappend, plen]; refine hK _ _ ?_; clear hK K
      (repeat refine PW.seq ?_); refine PW.cond (t := _) rfl (fun h => ?_) (fun h => ?_)
      · have h3 : ty t i = 3 := by simpa using h
        refine PW.exit ?_
        have e1 : lst t (i + 1) = lst t i := by simp [lst, h3]
        have e2 : arr t (i + 1) = arr t i := by funext j; simp [arr, h3]
        rw [e1, e2]
        exact ⟨rfl, rfl⟩
      have h3 : ty t i ≠ 3 := by simpa using h
      have e1 : lst t (i + 1) = i + 1 := by simp [lst, h3]
      refine PW.skip ?_
      (repeat refine PW.seq ?_); refine PW.rg rfl fun K hK => ?_; simp (maxSteps := 3000000) (disch := omega) only [go_sem, ↓reduceIte, reduceCtorEq, pappend, plen]; refine hK _ _ ?_; clear hK K; (repeat refine PW.seq ?_); refine PW.rg rfl fun K hK => ?_; simp (maxSteps := 3000000) (disch := omega) only [go_sem, ↓reduceIte, reduceCtorEq, pappend, plen]; refine hK _ _ ?_; clear hK K
      (repeat refine PW.seq ?_)
      refine PW.rgv (P := Try.prog) [3, 4, 5, 6, 7, 13, 14, 15] 8 (.bool (kn t i)) ?_ ?_ ?_
      · rfl
      · rcases Nat.eq_zero_or_pos (lst t i) with h0 | h0
        · have hk0 := kn_zero t i h0
          simp (maxSteps := 3000000) (disch := omega) only [go_sem, ↓reduceIte, reduceCtorEq, pappend, plen, h0]
          (repeat' ((first | refine VO_cond (fun h => ?_) (fun h => ?_) | refine VOd_cond (fun h => ?_) (fun h => ?_) | refine VOg_cond (fun h => ?_) (fun h => ?_) | refine VOh_cond (fun h => ?_) (fun h => ?_) | refine VOi_cond (fun h => ?_) (fun h => ?_) | refine And.intro (fun h => ?_) (fun h => ?_)) <;> (try simp only [Bool.not_eq_true', Bool.not_eq_false', decide_eq_true_eq, decide_eq_false_iff_not] at h) <;> simp (maxSteps := 3000000) (disch := omega) only [go_sem, ↓reduceIte, reduceCtorEq, pappend, plen, h]))
          all_goals (simp_all [slot, Nat.beq] <;> first | rfl | omega | (rw [Bool.eq_iff_iff]; simp; done) | (rw [Bool.eq_iff_iff]; simp; omega))
        · have hk0 := arr_last t i h0
          have e3 : (lst t i : Int) - 1 = ((lst t i - 1 : Nat) : Int) := by omega
          simp (maxSteps := 3000000) (disch := omega) only [go_sem, ↓reduceIte, reduceCtorEq, pappend, plen, e3, rg_cell, rg_len, fs_len, hk0]
          (repeat' ((first | refine VO_cond (fun h => ?_) (fun h => ?_) | refine VOd_cond (fun h => ?_) (fun h => ?_) | refine VOg_cond (fun h => ?_) (fun h => ?_) | refine VOh_cond (fun h => ?_) (fun h => ?_) | refine VOi_cond (fun h => ?_) (fun h => ?_) | refine And.intro (fun h => ?_) (fun h => ?_)) <;> (try simp only [Bool.not_eq_true', Bool.not_eq_false', decide_eq_true_eq, decide_eq_false_iff_not] at h) <;> simp (maxSteps := 3000000) (disch := omega) only [go_sem, ↓reduceIte, reduceCtorEq, pappend, plen, e3, rg_cell, rg_len, fs_len, hk0, h]))
          all_goals (simp_all [slot, Nat.beq] <;> first | rfl | omega | (rw [Bool.eq_iff_iff]; simp; done) | (rw [Bool.eq_iff_iff]; simp; omega))
      have hv : kn t (i + 1) = (ty t i == 1 || (ty t i == 2 && kn t i)) := by simp [kn, h3]
      refine PW.to [3, 4, 5, 7, 8, 13, 14, 15] [(3, .msl H.length 0 0 t.length 1 true), (4, .int .i64 (i : Int)), (5, .int .i64 (i : Int)), (7, .int .i64 ((lst t i : Int) - 1)), (8, .bool (kn t i)), (13, .slice (is t) t.length f), (14, .int .i64 (t.length : Int)), (15, .int .i64 (i : Int))] (H ++ [⟨4, 0, fs (rg t.length fun j => if j = i then kn t (i + 1) else arr t i j)⟩]) ?_ ?_
      · (repeat refine PW.seq ?_); refine PW.rg rfl fun K hK => ?_
        simp (maxSteps := 3000000) (disch := omega) only [go_sem, ↓reduceIte, reduceCtorEq, pappend, plen, rg_len, fs_len, rg_set]
        (repeat' ((first | refine VO_cond (fun h => ?_) (fun h => ?_) | refine VOd_cond (fun h => ?_) (fun h => ?_) | refine VOg_cond (fun h => ?_) (fun h => ?_) | refine VOh_cond (fun h => ?_) (fun h => ?_) | refine VOi_cond (fun h => ?_) (fun h => ?_) | refine And.intro (fun h => ?_) (fun h => ?_)) <;> (try simp only [Bool.not_eq_true', Bool.not_eq_false', decide_eq_true_eq, decide_eq_false_iff_not] at h) <;> simp (maxSteps := 3000000) (disch := omega) only [go_sem, ↓reduceIte, reduceCtorEq, pappend, plen, rg_len, fs_len, rg_set, h]))
        all_goals (refine hK _ _ ⟨rfl, ?_⟩; clear hK K ih hnext; refine congrArg (fun v => H ++ [⟨4, 0, fs (rg t.length fun j => if j = i then v else arr t i j)⟩]) ?_; rw [hv]; simp_all)
      have e4 : (lst t i : Int) - 1 + 1 = (lst t i : Int) := by omega
      (repeat refine PW.seq ?_); refine PW.rg rfl fun K hK => ?_; simp (maxSteps := 3000000) (disch := omega) only [go_sem, ↓reduceIte, reduceCtorEq, pappend, plen, e4]; refine hK _ _ ?_; clear hK K
      (repeat refine PW.seq ?_); refine PW.block (PW.loop ?_)
      clear ih hnext
      suffices hloop : ∀ k, lst t i ≤ k → k ≤ i → (lst t i < k → kn t i = true ∧ kn t (i + 1) = true) → PL Try.prog _ _ [(3, .msl H.length 0 0 t.length 1 true), (4, .int .i64 (i : Int)), (5, .int .i64 (i : Int)), (8, .bool (kn t i)), (9, .int .i64 (k : Int)), (13, .slice (is t) t.length f), (14, .int .i64 (t.length : Int)), (15, .int .i64 (i : Int))] (H ++ [⟨4, 0, fs (rg t.length fun j => if j = i then kn t (i + 1) else if lst t i ≤ j ∧ j < k then true else arr t i j)⟩]) _ by
        refine PL.at [3, 4, 5, 8, 9, 13, 14, 15] (hloop (lst t i) (Nat.le_refl _) (lst_le t i) (fun h => by omega)) rfl ?_
        rw [rg_ext t.length (g := fun j => if j = i then kn t (i + 1) else arr t i j) (g' := fun j => if j = i then kn t (i + 1) else if lst t i ≤ j ∧ j < lst t i then true else arr t i j) (fun j hj => by
          have : ¬ (lst t i ≤ j ∧ j < lst t i) := by omega
          simp only [if_neg this])]
      intro k hk1 hk2 hk3
      induction hm2 : i - k using Nat.strongRecOn generalizing k with
      | _ m2 ih =>
        refine PL.round ?_; (repeat refine PW.seq ?_); refine PW.rg rfl fun K hK => ?_; simp (maxSteps := 3000000) (disch := omega) only [go_sem, ↓reduceIte, reduceCtorEq, pappend, plen]; refine hK _ _ ?_; clear hK K
        (repeat refine PW.seq ?_); refine PW.cond (t := _) rfl (fun h => ?_) (fun h => ?_)
        · have h5 : k < i := by have := of_decide_eq_true h; omega
          have hii : (fs (rg t.length fun j => if j = i then kn t (i + 1) else if lst t i ≤ j ∧ j < k then true else arr t i j))[i]? = some (.bool (kn t (i + 1))) := by rw [rg_cell _ _ _ h4]; simp
          have hset := rg_set t.length (fun j => if j = i then kn t (i + 1) else if lst t i ≤ j ∧ j < k then true else arr t i j) k true
          refine PW.skip ?_
          (repeat refine PW.seq ?_); refine PW.block ?_
          (repeat refine PW.seq ?_)
          refine PW.rgv (P := Try.prog) [3, 4, 5, 8, 9, 13, 14, 15] 59 (.bool (!(kn t i && kn t (i + 1)))) ?_ ?_ ?_
          · rfl
          · cases hkn : kn t i
            · simp (maxSteps := 3000000) (disch := omega) only [go_sem, ↓reduceIte, reduceCtorEq, pappend, plen, hkn]
              (repeat' ((first | refine VO_cond (fun h => ?_) (fun h => ?_) | refine VOd_cond (fun h => ?_) (fun h => ?_) | refine VOg_cond (fun h => ?_) (fun h => ?_) | refine VOh_cond (fun h => ?_) (fun h => ?_) | refine VOi_cond (fun h => ?_) (fun h => ?_) | refine And.intro (fun h => ?_) (fun h => ?_)) <;> (try simp only [Bool.not_eq_true', Bool.not_eq_false', decide_eq_true_eq, decide_eq_false_iff_not] at h) <;> simp (maxSteps := 3000000) (disch := omega) only [go_sem, ↓reduceIte, reduceCtorEq, pappend, plen, hkn, h]))
              all_goals (simp_all [slot, Nat.beq] <;> first | rfl | omega | (rw [Bool.eq_iff_iff]; simp; done) | (rw [Bool.eq_iff_iff]; simp; omega))
            · simp (maxSteps := 3000000) (disch := omega) only [go_sem, ↓reduceIte, reduceCtorEq, pappend, plen, hkn, hii, rg_len, fs_len]
              (repeat' ((first | refine VO_cond (fun h => ?_) (fun h => ?_) | refine VOd_cond (fun h => ?_) (fun h => ?_) | refine VOg_cond (fun h => ?_) (fun h => ?_) | refine VOh_cond (fun h => ?_) (fun h => ?_) | refine VOi_cond (fun h => ?_) (fun h => ?_) | refine And.intro (fun h => ?_) (fun h => ?_)) <;> (try simp only [Bool.not_eq_true', Bool.not_eq_false', decide_eq_true_eq, decide_eq_false_iff_not] at h) <;> simp (maxSteps := 3000000) (disch := omega) only [go_sem, ↓reduceIte, reduceCtorEq, pappend, plen, hkn, hii, rg_len, fs_len, h]))
              all_goals (simp_all [slot, Nat.beq] <;> first | rfl | omega | (rw [Bool.eq_iff_iff]; simp; done) | (rw [Bool.eq_iff_iff]; simp; omega))
          (repeat refine PW.seq ?_); refine PW.cond (t := _) rfl (fun h => ?_) (fun h => ?_)
          · have hno : (kn t i && kn t (i + 1)) = false := by cases h1 : kn t i <;> cases h2 : kn t (i + 1) <;> simp_all
            refine PW.exit ?_
            have hk : k = lst t i := by
              rcases Nat.eq_or_lt_of_le hk1 with e | e
              · exact e.symm
              · have := hk3 e; rw [this.1, this.2] at hno; cases hno
            subst hk
            refine ⟨?_, ?_⟩
            · rw [e1, show ((i + 1 : Nat) : Int) - 1 = (i : Int) by omega]; rfl
            · rw [rg_ext t.length (g' := arr t (i + 1)) (fun j hj => by
                simp only [arr, if_neg h3]
                by_cases ej : j = i
                · simp [ej]
                · rw [if_neg ej, if_neg ej]
                  rw [if_neg (by omega)]
                  split
                  · rename_i hr; rw [arr_past t i j hr.1 hr.2, hno]
                  · rfl)]
          · have hyes : kn t i = true ∧ kn t (i + 1) = true := by simpa using h
            refine PW.skip ?_
            (repeat refine PW.seq ?_); refine PW.rg rfl fun K hK => ?_; simp (maxSteps := 3000000) (disch := omega) only [go_sem, ↓reduceIte, reduceCtorEq, pappend, plen, rg_len, fs_len, hset]; refine hK _ _ ?_; clear hK K
            (repeat refine PW.seq ?_); refine PW.rg rfl fun K hK => ?_; simp (maxSteps := 3000000) (disch := omega) only [go_sem, ↓reduceIte, reduceCtorEq, pappend, plen]; refine hK _ _ ?_; clear hK K
            refine PL.at [3, 4, 5, 8, 9, 13, 14, 15] (ih (i - (k + 1)) (by omega) (k + 1) (by omega) (by omega) (fun _ => hyes) rfl) rfl ?_
            rw [rg_ext t.length (g' := fun j => if j = i then kn t (i + 1) else if lst t i ≤ j ∧ j < k + 1 then true else arr t i j) (fun j hj => by
              by_cases ej : j = k
              · subst ej
                rw [if_pos rfl, if_neg (by omega), if_pos (by omega)]
              · rw [if_neg ej]
                by_cases ei : j = i
                · simp [ei]
                · rw [if_neg ei, if_neg ei]
                  by_cases hr : lst t i ≤ j ∧ j < k
                  · rw [if_pos hr, if_pos (by omega)]
                  · rw [if_neg hr, if_neg (by omega)])]
        · have h5 : k = i := by have := of_decide_eq_false h; omega
          subst h5
          refine PW.exit ?_
          refine ⟨?_, ?_⟩
          · rw [e1, show ((k + 1 : Nat) : Int) - 1 = (k : Int) by omega]; rfl
          · rw [rg_ext t.length (g' := arr t (k + 1)) (fun j hj => by
              simp only [arr, if_neg h3]
              by_cases ej : j = k
              · simp [ej]
              · rw [if_neg ej, if_neg ej]
                split
                · rename_i hr; have := hk3 (by omega); rw [this.1, this.2]; rfl
                · rfl)]
    · have h4 : i = t.length := by have := of_decide_eq_false h; omega
      subst h4
      refine PW.exit ?_
      (repeat refine PW.seq ?_); refine PW.rg rfl fun K hK => ?_; simp (maxSteps := 3000000) (disch := omega) only [go_sem, ↓reduceIte, reduceCtorEq, pappend, plen]; refine hK _ _ ?_; clear hK K
      refine PW.ret ⟨_, rfl, ?_⟩
      exact Fin.base (Fz.mslC (e := 4) (xs := fs (rg t.length (arr t t.length))) (Nat.le_refl _) (by simp) (by rw [fs_len, rg_len]; omega) (FzC.refl (fs_scoped _ _)))

end Go.Proofs.Ytnjnikafhbholaa.Sc

namespace Go.Proofs.Ytnjnikafhbholaa.Sc
set_option linter.all false
set_option linter.unusedVariables false
set_option linter.unusedSimpArgs false
open Pm Ty Go.RowKit

/-- A tape in memory: its numbers and how many have been read. -/
def tb (L : List Int) (f : Bool) (a : Nat) : Blk := ⟨59, 0, [.slice (is L) L.length f, .int .i64 (a : Int)]⟩
def tv (L : List Int) (a : Nat) : Int := if a < L.length then intAt L a else (a : Int) * 7 + 3
/-- The next number below n. -/
def tn (L : List Int) (a : Nat) (n : Int) : Int := ((tv L a).tmod n + n).tmod n
theorem tmod_lt (v n : Int) (h : 1 ≤ n) : -n < v.tmod n ∧ v.tmod n < n := by
  have h1 := Int.tmod_lt_of_pos v (by omega : 0 < n)
  have h2 := Int.lt_tmod_of_pos v (by omega : 0 < n)
  exact ⟨h2, h1⟩
theorem tn_range (L : List Int) (a : Nat) (n : Int) (h : 1 ≤ n) : 0 ≤ tn L a n ∧ tn L a n < n := by
  have h1 := tmod_lt (tv L a) n h
  unfold tn
  refine ⟨Int.tmod_nonneg _ (by omega), Int.tmod_lt_of_pos _ (by omega)⟩

theorem next_ok (L : List Int) (f : Bool) (a : Nat) (n : Int) (i : Nat) (H : Heap) (hi : H[i]? = some (tb L f a)) (hn : 1 ≤ n ∧ n ≤ 1000000000) (ha : a ≤ 1000000000) :
    CallOk Try.prog 34 [.ptr i 0 0, .int .i64 n] H (.int .i64 (tn L a n)) (H.set i (tb L f (a + 1))) := by
  have hr := tmod_lt (tv L a) n hn.1
  unfold tb at hi
  refine CallOk.body (F0 := [(0, .ptr i 0 0), (1, .int .i64 n)]) Try.func34 rfl Try.ntmps34 Try.results34 rfl (by kernel_rfl) rfl ?_
  (repeat refine PW.seq ?_); refine PW.rg rfl fun K hK => ?_; simp (maxSteps := 3000000) (disch := omega) only [go_sem, ↓reduceIte, reduceCtorEq, pappend, plen]; refine hK _ _ ?_; clear hK K; (repeat refine PW.seq ?_); refine PW.rg rfl fun K hK => ?_; simp (maxSteps := 3000000) (disch := omega) only [go_sem, ↓reduceIte, reduceCtorEq, pappend, plen]; refine hK _ _ ?_; clear hK K
  (repeat refine PW.seq ?_); refine PW.cond (t := _) rfl (fun h => ?_) (fun h => ?_)
  · cases h
  refine PW.skip ?_
  (repeat refine PW.seq ?_); refine PW.rg rfl fun K hK => ?_; simp (maxSteps := 3000000) (disch := omega) only [go_sem, ↓reduceIte, reduceCtorEq, pappend, plen, hi]; refine hK _ _ ?_; clear hK K
  (repeat refine PW.seq ?_); refine PW.draw mix (by kernel_rfl) fun K hK => ?_; simp (maxSteps := 3000000) (disch := omega) only [go_sem, ↓reduceIte, reduceCtorEq, pappend, plen, hi]; refine hK _ _ ?_; clear hK K
  refine PW.meet [0, 1, 5] [(0, .ptr i 0 0), (1, .int .i64 n), (5, .int .i64 (tv L a))] H ?_ ?_
  · (repeat refine PW.seq ?_); refine PW.cond (t := _) rfl (fun h => ?_) (fun h => ?_)
    · have h4 : a < L.length := by have := of_decide_eq_true h; omega
      (repeat refine PW.seq ?_); refine PW.draw mix (by kernel_rfl) fun K hK => ?_; simp (maxSteps := 3000000) (disch := omega) only [go_sem, ↓reduceIte, reduceCtorEq, pappend, plen, hi, is_get, is_len]; refine hK _ _ ?_; clear hK K
      refine ⟨?_, rfl⟩
      rw [show tv L a = intAt L a from if_pos h4]
      rfl
    · have h4 : ¬ a < L.length := by have := of_decide_eq_false h; omega
      refine PW.skip ⟨?_, rfl⟩
      rw [show tv L a = (a : Int) * 7 + 3 from if_neg h4]
      rfl
  (repeat refine PW.seq ?_); refine PW.rg rfl fun K hK => ?_; simp (maxSteps := 3000000) (disch := omega) only [go_sem, ↓reduceIte, reduceCtorEq, pappend, plen, hi]; refine hK _ _ ?_; clear hK K
  (repeat refine PW.seq ?_); refine PW.rg rfl fun K hK => ?_; simp (maxSteps := 3000000) (disch := omega) only [go_sem, ↓reduceIte, reduceCtorEq, pappend, plen]; refine hK _ _ ?_; clear hK K
  refine PW.ret ⟨_, rfl, ?_⟩
  exact Fin.now

theorem gp (G K : Heap) (b : Blk) (N : Nat) (h : G.length = N) : (G ++ b :: K)[N]? = some b := by rw [List.getElem?_append_right (by omega), h]; simp
theorem gs (G K : Heap) (b x : Blk) (N : Nat) (h : G.length = N) : (G ++ b :: K).set N x = G ++ x :: K := by rw [List.set_append_right _ _ (by omega), h]; simp
theorem gset (G K : Heap) (i : Nat) (x : Blk) (h : i < G.length) : (G ++ K).set i x = G.set i x ++ K := List.set_append_left _ _ h

/-- Types: 1, 2, 2, 2, 3, 3, 3. -/
def tbl (r : Int) : Int := if r = 0 then 1 else if r ≤ 3 then 2 else 3
theorem tbl_range (r : Int) : 1 ≤ tbl r ∧ tbl r ≤ 3 := by unfold tbl; repeat' split <;> omega
def tyl (L : List Int) (a : Nat) : Nat → List Int
  | 0 => [1]
  | k + 1 => tyl L a k ++ [tbl (tn L (a + k) 7)]
theorem tyl_len (L : List Int) (a : Nat) : ∀ k, (tyl L a k).length = k + 1
  | 0 => rfl
  | k + 1 => by simp [tyl, tyl_len L a k]
def tyR (L : List Int) (a k : Nat) : List Int := if intAt (tyl L a k) k = 3 then (tyl L a k).set k (1 + tn L (a + k) 2) else tyl L a k
def tyA (L : List Int) (a k : Nat) : Nat := if intAt (tyl L a k) k = 3 then a + k + 1 else a + k
theorem tyR_len (L : List Int) (a k : Nat) : (tyR L a k).length = k + 1 := by
  unfold tyR
  split
  · rw [List.length_set, tyl_len]
  · exact tyl_len L a k
theorem tbl_get (r : Int) (h : 0 ≤ r ∧ r < 7) : ([.int .i64 1, .int .i64 2, .int .i64 2, .int .i64 2, .int .i64 3, .int .i64 3, .int .i64 3] : List PV)[r.toNat]? = some (.int .i64 (tbl r)) := by
  have h3 : r = 0 ∨ r = 1 ∨ r = 2 ∨ r = 3 ∨ r = 4 ∨ r = 5 ∨ r = 6 := by omega
  rcases h3 with h3 | h3 | h3 | h3 | h3 | h3 | h3 <;> (subst h3; rfl)

theorem types_ok (L : List Int) (f : Bool) (a k : Nat) (i : Nat) (H : Heap) (hi : H[i]? = some (tb L f a)) (hk : k ≤ 1000000) (ha : a ≤ 100000000) :
    CallOk Try.prog 33 [.ptr i 0 0, .int .i64 ((k : Int) + 1)] H (.slice (is (tyR L a k)) (k + 1) false) (H.set i (tb L f (tyA L a k))) := by
  have hil : i < H.length := (List.getElem?_eq_some_iff.1 hi).1
  have h0 : H.set i (tb L f a) = H := by
    apply List.ext_getElem?
    intro j
    rw [List.getElem?_set]
    split
    · rename_i e; subst e; first | rw [hi] | rw [if_pos hil, hi]
    · rfl
  refine CallOk.body (F0 := [(0, .ptr i 0 0), (1, .int .i64 ((k : Int) + 1))]) Try.func33 rfl Try.ntmps33 Try.results33 rfl (by kernel_rfl) rfl ?_
  (repeat refine PW.seq ?_); refine PW.rg rfl fun K hK => ?_; simp (maxSteps := 3000000) (disch := omega) only [go_sem, ↓reduceIte, reduceCtorEq, pappend, plen]; refine hK _ _ ?_; clear hK K; (repeat refine PW.seq ?_); refine PW.rg rfl fun K hK => ?_; simp (maxSteps := 3000000) (disch := omega) only [go_sem, ↓reduceIte, reduceCtorEq, pappend, plen]; refine hK _ _ ?_; clear hK K
  (repeat refine PW.seq ?_); refine PW.block (PW.loop ?_)
  cases k with
  | zero =>
    refine PL.round ?_; (repeat refine PW.seq ?_); refine PW.rg rfl fun K hK => ?_; simp (maxSteps := 3000000) (disch := omega) only [go_sem, ↓reduceIte, reduceCtorEq, pappend, plen]; refine hK _ _ ?_; clear hK K
    (repeat refine PW.seq ?_); refine PW.cond (t := _) rfl (fun h => ?_) (fun h => ?_)
    · cases h
    refine PW.exit ?_
    (repeat refine PW.seq ?_); refine PW.rg rfl fun K hK => ?_; simp (maxSteps := 3000000) (disch := omega) only [go_sem, ↓reduceIte, reduceCtorEq, pappend, plen]; refine hK _ _ ?_; clear hK K
    (repeat refine PW.seq ?_); refine PW.cond (t := _) rfl (fun h => ?_) (fun h => ?_)
    · cases h
    refine PW.skip ?_
    (repeat refine PW.seq ?_); refine PW.rg rfl fun K hK => ?_; simp (maxSteps := 3000000) (disch := omega) only [go_sem, ↓reduceIte, reduceCtorEq, pappend, plen]; refine hK _ _ ?_; clear hK K
    refine PW.ret ⟨_, rfl, ?_⟩
    rw [show tyA L a 0 = a from rfl, h0]
    have := Fin.base (H := H) (K := []) (v := .slice (is [1]) 1 false) (v' := .slice (is [1]) 1 true) (Fz.sliceC (FzC.refl (is_scoped _ _)) (fun e => by cases e))
    rw [List.append_nil] at this
    exact this
  | succ k =>
    suffices hloop : ∀ j, 1 ≤ j → j ≤ k + 1 → PL Try.prog _ _ [(0, .ptr i 0 0), (1, .int .i64 (((k + 1 : Nat) : Int) + 1)), (5, .msl H.length (j + 1) 0 (j + 1) 1 true)] (H.set i (tb L f (a + j)) ++ [⟨3, j + 1, is (tyl L a j)⟩]) _ by
      refine PL.round ?_; (repeat refine PW.seq ?_); refine PW.rg rfl fun K hK => ?_; simp (maxSteps := 3000000) (disch := omega) only [go_sem, ↓reduceIte, reduceCtorEq, pappend, plen]; refine hK _ _ ?_; clear hK K
      (repeat refine PW.seq ?_); refine PW.cond (t := _) rfl (fun h => ?_) (fun h => ?_)
      · have hr := tn_range L a 7 (by omega)
        have hg := tbl_get (tn L a 7) hr
        refine PW.skip ?_; (repeat refine PW.seq ?_); refine PW.block ?_
        have hlen : (H.set i (tb L f (a + 1))).length = H.length := List.length_set
        (repeat refine PW.seq ?_); refine PW.rg rfl fun K hK => ?_; simp (maxSteps := 3000000) (disch := omega) only [go_sem, ↓reduceIte, reduceCtorEq, pappend, plen, hg, hlen]; refine VCx.call (next_ok L f a 7 i H hi (by omega) (by omega)) rfl ?_; simp (maxSteps := 3000000) (disch := omega) only [go_sem, ↓reduceIte, reduceCtorEq, pappend, plen, hg, hlen]; refine hK _ _ ?_; clear hK K
        refine PL.at [0, 1, 5] (hloop 1 (by omega) (by omega)) rfl rfl
      · cases h
    intro j hj1 hj2
    induction hm : k + 1 - j using Nat.strongRecOn generalizing j with
    | _ m ih =>
      obtain ⟨G, hG⟩ : ∃ G, H.set i (tb L f (a + j)) = G := ⟨_, rfl⟩
      have hGl : G.length = H.length := by rw [← hG, List.length_set]
      have hGi : (G ++ [⟨3, j + 1, is (tyl L a j)⟩])[i]? = some (tb L f (a + j)) := by rw [List.getElem?_append_left (by omega), ← hG]; simp [hil]
      have hGs : ∀ y K, (G ++ K).set i y = H.set i y ++ K := fun y K => by rw [gset G K i y (by omega), ← hG, List.set_set]
      have htl := tyl_len L a j
      rw [hG]
      have hS1 : (H.set i (tb L f (a + j + 1))).length = H.length := List.length_set
      refine PL.round ?_; (repeat refine PW.seq ?_); refine PW.rg rfl fun K hK => ?_; simp (maxSteps := 3000000) (disch := omega) only [go_sem, ↓reduceIte, reduceCtorEq, pappend, plen, gp]; refine hK _ _ ?_; clear hK K
      (repeat refine PW.seq ?_); refine PW.cond (t := _) rfl (fun h => ?_) (fun h => ?_)
      · have h4 : j < k + 1 := by have := of_decide_eq_true h; omega
        have hr := tn_range L (a + j) 7 (by omega)
        have hg := tbl_get (tn L (a + j) 7) hr
        refine PW.skip ?_; (repeat refine PW.seq ?_); refine PW.block ?_
        (repeat refine PW.seq ?_); refine PW.rg rfl fun K hK => ?_; simp (maxSteps := 3000000) (disch := omega) only [go_sem, ↓reduceIte, reduceCtorEq, pappend, plen, hg, hGs, gp, gs, htl, is_len]; refine VCx.call (next_ok L f (a + j) 7 i _ hGi (by omega) (by omega)) rfl ?_; simp (maxSteps := 3000000) (disch := omega) only [go_sem, ↓reduceIte, reduceCtorEq, pappend, plen, hg, hGs, gp, gs, htl, is_len]; refine hK _ _ ?_; clear hK K
        refine PL.at [0, 1, 5] (ih (k + 1 - (j + 1)) (by omega) (j + 1) (by omega) (by omega) rfl) ?_ ?_
        · have hc1 : (is (tyl L a j) ++ [PV.int .i64 (tbl (tn L (a + j) 7))]).length = j + 1 + 1 := by rw [List.length_append, is_len, htl]; rfl
          simp (maxSteps := 3000000) (disch := omega) only [go_sem, ↓reduceIte, reduceCtorEq, pappend, plen]
          rw [hc1]
        · have hc1 : (is (tyl L a j) ++ [PV.int .i64 (tbl (tn L (a + j) 7))]).length = j + 1 + 1 := by rw [List.length_append, is_len, htl]; rfl
          rw [hc1, tyl, is_append]
          rfl
      · have h4 : j = k + 1 := by have := of_decide_eq_false h; omega
        subst h4
        refine PW.exit ?_
        have e1 : ((k + 1 : Nat) : Int) + 1 - 1 = ((k + 1 : Nat) : Int) := by omega
        (repeat refine PW.seq ?_); refine PW.rg rfl fun K hK => ?_; simp (maxSteps := 3000000) (disch := omega) only [go_sem, ↓reduceIte, reduceCtorEq, pappend, plen, gp, gs, htl, is_len, is_get, e1]; refine hK _ _ ?_; clear hK K
        have fin : ∀ (l : List Int) (a' : Nat), l.length = k + 1 + 1 → Fin H (.slice (is l) (k + 1 + 1) false) (H.set i (tb L f a')) (.msl H.length (k + 1 + 1) 0 (k + 1 + 1) 1 true) (H.set i (tb L f a') ++ [⟨3, k + 1 + 1, is l⟩]) := fun l a' hl =>
          Fin.cut rfl (by rw [List.length_set]) (fun h => HSc.set h (fun x hx => by
            simp only [tb, List.mem_cons, List.not_mem_nil, or_false] at hx
            rcases hx with rfl | rfl
            · exact sl_scoped (is_scoped _ _)
            · exact .int _ _)) (Fz.mslC (e := 3) (xs := is l) (by rw [List.length_set]; exact Nat.le_refl _) (gp _ _ _ _ (by rw [List.length_set])) (by rw [is_len]; omega) (FzC.refl (is_scoped _ _)))
        (repeat refine PW.seq ?_); refine PW.cond (t := _) rfl (fun h => ?_) (fun h => ?_)
        · have h5 : intAt (tyl L a (k + 1)) (k + 1) = 3 := by simpa using h
          have hr2 := tn_range L (a + (k + 1)) 2 (by omega)
          (repeat refine PW.seq ?_); refine PW.rg rfl fun K hK => ?_; simp (maxSteps := 3000000) (disch := omega) only [go_sem, ↓reduceIte, reduceCtorEq, pappend, plen, hGs, gp, gs, htl, is_len, e1, is_set]; refine VCx.call (next_ok L f (a + (k + 1)) 2 i _ hGi (by omega) (by omega)) rfl ?_; simp (maxSteps := 3000000) (disch := omega) only [go_sem, ↓reduceIte, reduceCtorEq, pappend, plen, hGs, gp, gs, htl, is_len, e1, is_set]; refine hK _ _ ?_; clear hK K
          (repeat refine PW.seq ?_); refine PW.rg rfl fun K hK => ?_; simp (maxSteps := 3000000) (disch := omega) only [go_sem, ↓reduceIte, reduceCtorEq, pappend, plen]; refine hK _ _ ?_; clear hK K
          refine PW.ret ⟨_, rfl, ?_⟩
          rw [show tyR L a (k + 1) = (tyl L a (k + 1)).set (k + 1) (1 + tn L (a + (k + 1)) 2) from if_pos h5, show tyA L a (k + 1) = a + (k + 1) + 1 from if_pos h5]
          exact fin _ _ (by rw [List.length_set]; exact htl)
        · have h5 : intAt (tyl L a (k + 1)) (k + 1) ≠ 3 := by simpa using h
          refine PW.skip ?_
          (repeat refine PW.seq ?_); refine PW.rg rfl fun K hK => ?_; simp (maxSteps := 3000000) (disch := omega) only [go_sem, ↓reduceIte, reduceCtorEq, pappend, plen]; refine hK _ _ ?_; clear hK K
          refine PW.ret ⟨_, rfl, ?_⟩
          rw [show tyR L a (k + 1) = tyl L a (k + 1) from if_neg h5, show tyA L a (k + 1) = a + (k + 1) from if_neg h5, ← hG]
          exact fin _ _ htl

end Go.Proofs.Ytnjnikafhbholaa.Sc

namespace Go.Proofs.Ytnjnikafhbholaa.Pm
set_option linter.all false
set_option linter.unusedVariables false
set_option linter.unusedSimpArgs false
open Go.RowKit

variable {P : Program} {C : Ctx} {H K : Heap} {w : World} {F : Fr} {a : Act} {N : Nat}

/-! ### footprints -/
def posOf : List (Nat × List Nat) → Nat → List Nat
  | [], _ => []
  | (s, ps) :: l, t => match Nat.beq s t with | true => ps | false => posOf l t
def posO (pm : List (Nat × List Nat)) : Operand → List Nat
  | .tmp t => posOf pm t
  | .const _ => []
  | .func _ => []
  | .global _ => []
def opPos (pm : List (Nat × List Nat)) (op : Op) : List Nat := (op.operands.toList.map (posO pm)).flatten
/-- The blocks at places of a list. -/
def atP (ids ps : List Nat) : List Nat := ps.filterMap fun p => ids[p]?
structure Fp where
  r : List Nat
  l : List Nat
  w : List Nat
  v : List Nat
/-- 0: pure; 1: it looks at versions alone; 2: it reads; 3: a store; 4: append; 5: copy; 6: a map's update; 7: a call; 8: none of these. -/
def kindI (op : Op) : Nat := match pureOp op with
  | true => 0
  | false => match isCall op with
    | true => 7
    | false => match eff op with
      | false => (match liveOnly op with | true => 1 | false => 2)
      | true => match op with
        | .store .. => 3
        | .call { callee := .builtin .append, .. } => 4
        | .call { callee := .builtin .copy, .. } => 5
        | .mapUpdate .. => 6
        | .insert .. => 6
        | _ => 8
def fstO (op : Op) : Option Operand := match op with
  | .store _ a _ => some a
  | .call { args, .. } => args.toList[0]?
  | .mapUpdate _ m _ _ => some m
  | .insert _ m _ _ => some m
  | _ => none
def fstP (pm : List (Nat × List Nat)) (op : Op) : List Nat := match fstO op with | some x => posO pm x | none => []
/-- A new block: its cells, and the value that leads to it. -/
def pnew (P : Program) (op : Op) (f : Nat → PV) : Option (Blk × (Nat → PV)) := match op with
  | .alloc elem => (zcells P elem).map fun z => (⟨elem, 1, z⟩, fun r => .ptr r 1 0)
  | .box elem x => match (ev f x).cells.all PV.cell with | true => some (⟨elem, 1, (ev f x).cells⟩, fun r => .ptr r 1 0) | false => none
  | .makeSlice t l c => match P.underlying t, ev f l, ev f c with
    | some (.slice e), .int _ l, .int _ c => match szT P e, byT P e, zcells P e with
      | some n, some b, some z => if 0 ≤ l ∧ l ≤ c ∧ (b : Int) * c ≤ 140737488355328 ∧ c ≤ 140737488355328 ∧ z.length = n ∧ 0 < n then some (⟨e, 1, reps l.toNat z⟩, fun r => .msl r 1 0 l.toNat n true) else none
      | _, _, _ => none
    | _, _, _ => none
  | .buildSlice t len parts => match P.underlying t with
    | some (.slice e) => match szT P e, zcells P e with
      | some n, some z => if z.length = n ∧ 0 < len * n ∧ len * n ≤ 65536 then (pfill (fun i => some (i * n, n)) (reps len z) (parts.toList.map fun p => (p.1, ev f p.2))).map fun c => (⟨e, 1, c⟩, fun r => .msl r 1 0 len n true) else none
      | _, _ => none
    | _ => none
  | .call { callee := .builtin .append, args, argTypes } => match argTypes.toList, args.toList.map (ev f) with
    | [t, tx], [.slice xs len full, .slice ys m _] => match P.underlying t, P.underlying tx with
      | some (.slice e), some (.slice _) => match szT P e, byT P e, zcells P e with
        | some sz, some b, some z => if 0 < sz ∧ z.length = sz ∧ full = true ∧ xs.length = len * sz ∧ 0 < m ∧ ys.length = m * sz ∧ (len + m) * b ≤ 140737488355328 ∧ len + m ≤ 140737488355328 then some (⟨e, 1, xs ++ ys⟩, fun r => .msl r 1 0 (len + m) sz true) else none
        | _, _, _ => none
      | _, _ => none
    | _, _ => none
  | _ => none
def grows : Op → Bool
  | .alloc .. | .box .. | .makeSlice .. | .buildSlice .. => true
  | .call { callee := .builtin .append, .. } => true
  | _ => false
def resI (rs : List (Nat × Nat)) (o : Oper) : Option Nat := match grows o.op with | true => rsv rs o.dst | false => none
def fpOf (pm : List (Nat × List Nat)) (rs : List (Nat × Nat)) (ro : List Nat) (o : Oper) : Fp := match resI rs o with
  | some p => ⟨[], [], [p], [p]⟩
  | none => match kindI o.op with
    | 0 => ⟨[], [], [], []⟩
    | 1 => ⟨[], opPos pm o.op, [], []⟩
    | 2 => ⟨opPos pm o.op, [], [], []⟩
    | 3 => ⟨[], [], fstP pm o.op, []⟩
    | 4 => ⟨opPos pm o.op, [], fstP pm o.op, fstP pm o.op⟩
    | 5 => ⟨opPos pm o.op, [], fstP pm o.op, []⟩
    | 6 => ⟨opPos pm o.op, [], fstP pm o.op, []⟩
    | 7 => match o.dst with
      | some d => (match ro.elem d with | true => ⟨opPos pm o.op, opPos pm o.op, [], []⟩ | false => ⟨opPos pm o.op, opPos pm o.op, opPos pm o.op, opPos pm o.op⟩)
      | none => ⟨opPos pm o.op, opPos pm o.op, opPos pm o.op, opPos pm o.op⟩
    | _ => ⟨[], [], [], []⟩
def dis (a b : List Nat) : Bool := a.all fun i => !(b.elem i)
theorem dis_of {a b : List Nat} (h : dis a b = true) : ∀ i ∈ a, i ∉ b := fun i hi hb => by
  have := List.all_eq_true.1 h i hi
  rw [List.elem_eq_mem] at this
  simp [hb] at this
def compatI (ds : List (Option Nat)) (pm : List (Nat × List Nat)) (rs : List (Nat × Nat)) (ro : List Nat) (x y : Oper) : Bool :=
  clear ds x y && clear ds y x && dis (fpOf pm rs ro x).w (fpOf pm rs ro y).r && dis (fpOf pm rs ro x).w (fpOf pm rs ro y).w && dis (fpOf pm rs ro y).w (fpOf pm rs ro x).r && dis (fpOf pm rs ro x).v (fpOf pm rs ro y).l && dis (fpOf pm rs ro y).v (fpOf pm rs ro x).l

theorem atP_mem {ids ps : List Nat} {i : Nat} (h : i ∈ atP ids ps) : ∃ p ∈ ps, ids[p]? = some i := List.mem_filterMap.1 h
theorem atP_in {ids ps : List Nat} {i : Nat} (h : i ∈ atP ids ps) : i ∈ ids := by
  obtain ⟨p, _, hp⟩ := atP_mem h
  exact List.mem_of_getElem? hp
theorem atP_dis {ids a b : List Nat} (hn : ids.Nodup) (h : dis a b = true) {i : Nat} (ha : i ∈ atP ids a) : i ∉ atP ids b := fun hb => by
  obtain ⟨p, hp, e⟩ := atP_mem ha
  obtain ⟨q, hq, e'⟩ := atP_mem hb
  have : p = q := (List.getElem?_inj (List.getElem?_eq_some_iff.1 e).1 hn).1 (e.trans e'.symm)
  subst this
  exact dis_of h p hp hq

/-- Two heaps that agree on what is looked at. -/
structure Agr (ids : List Nat) (fp : Fp) (H K : Heap) : Prop where
  len : K.length = H.length
  out : ∀ i, i ∉ ids → K[i]? = H[i]?
  inn : ∀ i, i ∈ atP ids fp.r ∨ i ∈ atP ids fp.w → K[i]? = H[i]?
  liv : ∀ i, i ∈ atP ids fp.l → VEq H K i
theorem Agr.refl (ids : List Nat) (fp : Fp) (H : Heap) : Agr ids fp H H := ⟨rfl, fun _ _ => rfl, fun _ _ => rfl, fun _ _ => rfl⟩
theorem Agr.trans {ids : List Nat} {fp : Fp} {H K L : Heap} (h : Agr ids fp H K) (k : Agr ids fp K L) : Agr ids fp H L := ⟨k.len.trans h.len, fun i hi => (k.out i hi).trans (h.out i hi), fun i hi => (k.inn i hi).trans (h.inn i hi), fun i hi => Eq.trans (k.liv i hi) (h.liv i hi)⟩
/-- What may have changed. -/
structure Upd (ids : List Nat) (fp : Fp) (H H' : Heap) : Prop where
  len : H'.length = H.length
  out : ∀ i, i ∉ atP ids fp.w → H'[i]? = H[i]?
  ver : ∀ i, i ∉ atP ids fp.v → VEq H H' i
theorem Upd.refl (ids : List Nat) (fp : Fp) (H : Heap) : Upd ids fp H H := ⟨rfl, fun _ _ => rfl, fun _ _ => rfl⟩
theorem Upd.set {ids : List Nat} {fp : Fp} {id : Nat} {k b : Blk} (hk : H[id]? = some k) (hw : id ∈ atP ids fp.w) (hv : b.ver = k.ver ∨ id ∈ atP ids fp.v) : Upd ids fp H (H.set id b) := by
  have hid : id < H.length := (List.getElem?_eq_some_iff.1 hk).1
  refine ⟨by simp, fun i hi => ?_, fun i hi => ?_⟩
  · rw [List.getElem?_set_ne (show id ≠ i from fun e => hi (by rw [← e]; exact hw))]
  · unfold VEq
    by_cases e : id = i
    · subst e
      rcases hv with hv | hv
      · rw [List.getElem?_set_self hid, hk]; simp [hv]
      · exact absurd hv hi
    · rw [List.getElem?_set_ne e]

def popI (P : Program) (ids : List Nat) (rs : List (Nat × Nat)) (o : Oper) (f : Nat → PV) (H : Heap) : Option (PV × Heap) := match resI rs o with
  | some p => match ids[p]?, pnew P o.op f with
    | some r, some (b, mk) => match H[r]? with
      | some k => if k.e = b.e ∧ k.ver = 0 then some (mk r, H.set r b) else none
      | none => none
    | _, _ => none
  | none => pop P o.op f H
def StI (P : Program) (ids : List Nat) (rs : List (Nat × Nat)) (o : Oper) (f : Nat → PV) (H : Heap) (v : PV) (H' : Heap) : Prop := match pcallee o.op f with
  | some (g, args) => CallOk P g args H v H'
  | none => popI P ids rs o f H = some (v, H')
/-- It does the same in every heap that agrees. -/
def Loc (P : Program) (ids : List Nat) (rs : List (Nat × Nat)) (fp : Fp) (o : Oper) (f : Nat → PV) (H : Heap) (v : PV) (H' : Heap) : Prop :=
  Upd ids fp H H' ∧ ∀ K, Agr ids fp H K → ∃ K', StI P ids rs o f K v K' ∧ Upd ids fp K K' ∧ ∀ i, i ∈ atP ids fp.w → K'[i]? = H'[i]?
def ExI (P : Program) (all : List Oper) (ids : List Nat) (pm : List (Nat × List Nat)) (rs : List (Nat × Nat)) (ro : List Nat) (o : Oper) (f : Nat → PV) (H : Heap) (v : PV) (H' : Heap) : Prop :=
  (want all f o = some false ∧ v = .tup [] ∧ H' = H) ∨ (want all f o = some true ∧ Loc P ids rs (fpOf pm rs ro o) o f H v H')

theorem Loc.now {ids : List Nat} {rs : List (Nat × Nat)} {fp : Fp} {o : Oper} {f : Nat → PV} {v : PV} {H' : Heap} (h : Loc P ids rs fp o f H v H') : StI P ids rs o f H v H' := by
  obtain ⟨u, h⟩ := h
  obtain ⟨K', h1, h2, h3⟩ := h H (.refl _ _ _)
  have : K' = H' := List.ext_getElem? fun i => by
    by_cases hi : i ∈ atP ids fp.w
    · exact h3 i hi
    · rw [h2.out i hi, u.out i hi]
  rw [← this]; exact h1
theorem Loc.read {ids : List Nat} {rs : List (Nat × Nat)} {fp : Fp} {o : Oper} {f : Nat → PV} {v : PV} (h : ∀ K, Agr ids fp H K → StI P ids rs o f K v K) : Loc P ids rs fp o f H v H :=
  ⟨.refl _ _ _, fun K hK => ⟨K, h K hK, .refl _ _ _, fun i hi => hK.inn i (.inr hi)⟩⟩
theorem Loc.set {ids : List Nat} {rs : List (Nat × Nat)} {fp : Fp} {o : Oper} {f : Nat → PV} {v : PV} {id : Nat} {k b : Blk} (hk : H[id]? = some k) (hw : id ∈ atP ids fp.w) (hv : b.ver = k.ver ∨ id ∈ atP ids fp.v)
    (h : ∀ K, Agr ids fp H K → StI P ids rs o f K v (K.set id b)) : Loc P ids rs fp o f H v (H.set id b) := by
  refine ⟨.set hk hw hv, fun K hK => ⟨K.set id b, h K hK, .set ((hK.inn id (.inr hw)).trans hk) hw hv, fun i hi => ?_⟩⟩
  by_cases e : id = i
  · subst e
    have hid : id < H.length := (List.getElem?_eq_some_iff.1 hk).1
    rw [List.getElem?_set_self hid, List.getElem?_set_self (by rw [hK.len]; exact hid)]
  · rw [List.getElem?_set_ne e, List.getElem?_set_ne e, hK.inn i (.inr hi)]

theorem popI_congr {ids : List Nat} {rs : List (Nat × Nat)} {o : Oper} {f g : Nat → PV} (h : ∀ x ∈ o.op.operands.toList, ev f x = ev g x) : popI P ids rs o f H = popI P ids rs o g H := by
  have e : pnew P o.op f = pnew P o.op g := by
    unfold pnew
    split
    · rfl
    · rename_i el x ho; rw [ho] at h; rw [h x (by simp [Op.operands])]
    · rename_i t l c ho; rw [ho] at h; rw [h l (by simp [Op.operands]), h c (by simp [Op.operands])]
    · rename_i t len parts ho
      rw [ho] at h
      have : parts.toList.map (fun p => (p.1, ev f p.2)) = parts.toList.map (fun p => (p.1, ev g p.2)) := List.map_congr_left fun p hp => by rw [h p.2 (by simp [Op.operands]; exact ⟨_, Array.mem_toList_iff.1 hp⟩)]
      rw [this]
    · rename_i args ts ho
      rw [ho] at h
      have : args.toList.map (ev f) = args.toList.map (ev g) := List.map_congr_left fun x hx => h x (by simp [Op.operands, Call.operands]; exact Array.mem_toList_iff.1 hx)
      rw [this]
    · rfl
  unfold popI
  split
  · rw [e]
  · exact pop_congr h
theorem ExI.congr {all : List Oper} {ids : List Nat} {pm : List (Nat × List Nat)} {rs : List (Nat × Nat)} {ro : List Nat} {o : Oper} {f g : Nat → PV} {v : PV} {H' : Heap} (h : ∀ t ∈ reads (all.map (·.dst)) o, f t = g t) (he : ExI P all ids pm rs ro o f H v H') : ExI P all ids pm rs ro o g H v H' := by
  have e1 : want all f o = want all g o := want_congr fun t ht => h t (List.mem_append.2 (.inr ht))
  have e2 : ∀ x ∈ o.op.operands.toList, ev f x = ev g x := fun x hx => ev_congr fun t ht => h t (List.mem_append.2 (.inl (mem_tmps (ht ▸ hx))))
  unfold ExI Loc StI at he ⊢
  simp only [← e1, ← pcallee_congr e2, ← popI_congr e2]
  exact he

theorem swapI {all : List Oper} {ids : List Nat} {pm : List (Nat × List Nat)} {rs : List (Nat × Nat)} {ro : List Nat} (hn : ids.Nodup) : SwapG (ExI P all ids pm rs ro) (compatI (all.map (·.dst)) pm rs ro) := by
  intro x o f H vx Hx v H1 hc hx ho
  unfold compatI at hc
  simp only [Bool.and_eq_true] at hc
  obtain ⟨⟨⟨⟨⟨⟨c1, c2⟩, c3⟩, c4⟩, c5⟩, c6⟩, c7⟩ := hc
  have ho' : ExI P all ids pm rs ro o f Hx v H1 := ho.congr fun t ht => upd_other (clear_reads c1 t ht)
  have hx' : ∀ K K', ExI P all ids pm rs ro x f K vx K' → ExI P all ids pm rs ro x (upd f o.dst v) K vx K' := fun K K' h => h.congr fun t ht => (upd_other (clear_reads c2 t ht)).symm
  have hcm := upd_comm (f := f) (u := vx) (v := v) (clear_dst c1)
  rcases hx with ⟨x1, x2, rfl⟩ | ⟨x1, ux, lx⟩
  · exact ⟨H1, ho', hx' _ _ (.inl ⟨x1, x2, rfl⟩), hcm⟩
  rcases ho' with ⟨o1, o2, rfl⟩ | ⟨o1, uo, lo⟩
  · exact ⟨H, .inl ⟨o1, o2, rfl⟩, hx' _ _ (.inr ⟨x1, ux, lx⟩), hcm⟩
  have dxr : ∀ {i}, i ∈ atP ids (fpOf pm rs ro x).w → i ∉ atP ids (fpOf pm rs ro o).r := fun h => atP_dis hn c3 h
  have dxw : ∀ {i}, i ∈ atP ids (fpOf pm rs ro x).w → i ∉ atP ids (fpOf pm rs ro o).w := fun h => atP_dis hn c4 h
  have dor : ∀ {i}, i ∈ atP ids (fpOf pm rs ro o).w → i ∉ atP ids (fpOf pm rs ro x).r := fun h => atP_dis hn c5 h
  have dxv : ∀ {i}, i ∈ atP ids (fpOf pm rs ro x).v → i ∉ atP ids (fpOf pm rs ro o).l := fun h => atP_dis hn c6 h
  have dov : ∀ {i}, i ∈ atP ids (fpOf pm rs ro o).v → i ∉ atP ids (fpOf pm rs ro x).l := fun h => atP_dis hn c7 h
  have a1 : Agr ids (fpOf pm rs ro o) Hx H := ⟨ux.len.symm, fun i hi => (ux.out i fun h => hi (atP_in h)).symm, fun i hi => (ux.out i fun h => by rcases hi with hi | hi; exact dxr h hi; exact dxw h hi).symm, fun i hi => (ux.ver i fun h => dxv h hi).symm⟩
  obtain ⟨H3, s3, u3, w3⟩ := lo H a1
  have a2 : Agr ids (fpOf pm rs ro x) H H3 := ⟨u3.len, fun i hi => u3.out i fun h => hi (atP_in h), fun i hi => u3.out i fun h => by rcases hi with hi | hi; exact dor h hi; exact dxw hi h, fun i hi => u3.ver i fun h => dov h hi⟩
  refine ⟨H3, .inr ⟨o1, u3, fun K hK => ?_⟩, hx' _ _ (.inr ⟨x1, ⟨?_, fun i hi => ?_, fun i hi => ?_⟩, fun K hK => ?_⟩), hcm⟩
  · obtain ⟨K', k1, k2, k3⟩ := lo K (a1.trans hK)
    exact ⟨K', k1, k2, fun i hi => (k3 i hi).trans (w3 i hi).symm⟩
  · rw [uo.len, ux.len, u3.len]
  · by_cases hw : i ∈ atP ids (fpOf pm rs ro o).w
    · exact (w3 i hw).symm
    · rw [uo.out i hw, ux.out i hi, u3.out i hw]
  · by_cases hw : i ∈ atP ids (fpOf pm rs ro o).w
    · unfold VEq; rw [w3 i hw]
    · have := ux.ver i hi
      unfold VEq at this ⊢
      rw [uo.out i hw, u3.out i hw, this]
  · obtain ⟨K', k1, k2, k3⟩ := lx K (a2.trans hK)
    exact ⟨K', k1, k2, fun i hi => by rw [k3 i hi, uo.out i (dxw hi)]⟩

/-! ### a reserved place is taken -/
theorem pfill_length {place : Nat → Option (Nat × Nat)} : ∀ (parts : List (Nat × PV)) (cs ys : List PV), pfill place cs parts = some ys → ys.length = cs.length
  | [], cs, ys, h => by simp only [pfill, Option.some.injEq] at h; rw [h]
  | (i, v) :: rest, cs, ys, h => by
    simp only [pfill] at h
    split at h
    · cases h
    · rename_i off size hp
      split at h
      · rename_i hq
        rw [pfill_length rest _ _ h]
        simp only [splice, List.length_append, List.length_take, List.length_drop]
        omega
      · cases h
theorem pnewA_sound {t tx ty e sz bb len m r : Nat} {full g : Bool} {xs ys z : List PV} {p q : Value} {k : Blk} (hw : WRel C H w) (hsv : VRel C (.slice xs len full) p) (hx : VRel C (.slice ys m g) q)
    (hu : P.underlying t = some (.slice e)) {e' : TypeId} (hu' : P.underlying tx = some (.slice e')) (hn : szT P e = some sz) (hb : byT P e = some bb) (hz : zcells P e = some z)
    (hq : 0 < sz ∧ z.length = sz ∧ full = true ∧ xs.length = len * sz ∧ 0 < m ∧ ys.length = m * sz ∧ (len + m) * bb ≤ 140737488355328 ∧ len + m ≤ 140737488355328) (hk : H[r]? = some k) (he : k.e = e) (hv : k.ver = 0) :
    ∃ C' u w', CLe C C' ∧ WRel C' (H.set r ⟨e, 1, xs ++ ys⟩) w' ∧ Below C.B w w' ∧ VRel C' (.msl r 1 0 (len + m) sz true) u ∧ (Builtin.append_ #[t, tx] ty #[p, q]).run P w = .ok u w' := by
  have hid : r < H.length := (List.getElem?_eq_some_iff.1 hk).1
  have g1 : r < C.mu.length := by rw [hw.len]; exact hid
  have g2 : r < C.vs.length := by rw [hw.lenv]; exact hid
  have g3 : r < C.cp.length := by rw [hw.lenc]; exact hid
  obtain ⟨q1, q2, rfl, q4, q5, q6, q7, q8⟩ := hq
  obtain ⟨i, zv, hi, hzv, hzr, hzl, hzc⟩ := zcells_of hz
  obtain ⟨ie, hie, hs⟩ := szT_info hn
  obtain ⟨ib, hib, hby⟩ := byT_info hb
  rw [hi] at hie hib
  injection hie with hie
  injection hib with hib
  subst hie hib
  have hsrc : appSrc P H e sz tx (.slice ys m g) = some (ys, m) := by
    unfold appSrc scells
    simp only [hu', if_pos q6]
  obtain ⟨us, happ, hRn, hln, hnn, hcn⟩ := appSrc_sound hw hx hi hs hzv hz q2 q1 hsrc
  have hzsize : ∀ m, (Builtin.zeroCells zv.cells m).size = m * sz := fun m => by
    rw [size_zeroCells, ← Array.length_toList, hzl, q2]
  have hshape : ∃ ad os, p = .slice ad len len ∧ os.length = xs.length ∧ Rel C xs os ∧ (∀ x ∈ xs, x.cell = true) ∧ ((len = 0 ∧ os = []) ∨ ∃ b o, ad = some ⟨b, o, none⟩ ∧ At w b o os) := by
    cases hsv with
    | @slice _ _ cap b' o' _ us' hl' hM' hc' hR' hcap' hmax' hf' => rw [hf' rfl]; exact ⟨_, us', rfl, hl', hR', hc', .inr ⟨b', o', rfl, hw.at_imm hM'⟩⟩
    | sliceN => exact ⟨_, [], rfl, rfl, fun j x u hx => by simp at hx, fun x hx => by simp at hx, .inl ⟨rfl, rfl⟩⟩
  obtain ⟨ad, os, rfl, hos, hRx, hcx, hat⟩ := hshape
  have hold : (Builtin.firstCells i.size len (.slice ad len len)).run P w.drew = .ok os.toArray w.drew := by
    rw [hs]; exact first_of (w := w.drew) (by omega) (by rcases hat with h1 | ⟨b, o, h1, h2⟩; exact .inl h1; exact .inr ⟨b, o, h1, h2⟩)
  have hr := app_grow (P := P) (ty := ty) hu hi hzv hold happ (by omega) (by rw [hby]; exact q7) q8 (by rw [hs]; exact q1)
  have hge := grownCap_ge w (len + m) len e
  have hle := grownCap_le_maxLen w (len + m) len e (by simp only [maxLen]; omega)
  generalize grownCap w (len + m) len e = nc at hr hge hle
  generalize hcur : (os ++ us).toArray ++ Builtin.zeroCells zv.cells (nc - (len + m)) = cur at hr
  have hsize : cur.size = nc * sz := by
    rw [← hcur, Array.size_append, hzsize]
    simp only [List.size_toArray, List.length_append, hos, q4, hln, q6, ← Nat.add_mul]
    congr 1
    omega
  have hfit : (xs ++ ys).length ≤ cur.size := by
    rw [hsize, List.length_append, q4, q6, ← Nat.add_mul]
    exact Nat.mul_le_mul_right _ hge
  obtain ⟨c1, c2, c30⟩ := hw.drew.move hk 1 (by omega) (xs ++ ys) cur (fun x hx => by rcases List.mem_append.1 hx with hx | hx; exact hcx x hx; exact hcn x hx) hfit (fun j x u hx hu' => by
    have hlt : j < (xs ++ ys).length := (List.getElem?_eq_some_iff.1 hx).1
    refine Rel.append hos hRx hRn j x u hx ?_
    rw [← hcur, ← Array.getElem?_toList, Array.toList_append, List.getElem?_append_left (by simp at hlt ⊢; omega)] at hu'
    exact hu')
  rw [he] at c2 c30
  have c3 := ((Below.refl C.B w).drew).trans c30
  refine ⟨_, _, _, c1, c2, c3, ?_, hr⟩
  refine .msl (by simp [g1]) (by simp [g2]) hge hle (fun _ => ⟨rfl, ?_⟩)
  simp [g3, hsize]
theorem pnew_sound {op : Op} {f : Nat → PV} {b : Blk} {mk : Nat → PV} {r : Nat} {k : Blk} {o : Oper} (ho : o.op = op) (hw : WRel C H w) (hf : FRel C N f a) (h : pnew P op f = some (b, mk)) (hk : H[r]? = some k) (he : k.e = b.e) (hv : k.ver = 0) :
    ∃ C' u w', CLe C C' ∧ WRel C' (H.set r b) w' ∧ Below C.B w w' ∧ VRel C' (mk r) u ∧ (execOp a.eval o).run P w = .ok (.value u) w' := by
  have hid : r < H.length := (List.getElem?_eq_some_iff.1 hk).1
  have g1 : r < C.mu.length := by rw [hw.len]; exact hid
  have g2 : r < C.vs.length := by rw [hw.lenv]; exact hid
  have g3 : r < C.cp.length := by rw [hw.lenc]; exact hid
  unfold pnew at h
  split at h
  · rename_i elem
    simp only [Option.map_eq_some_iff, Prod.mk.injEq] at h
    obtain ⟨z, hz, rfl, rfl⟩ := h
    obtain ⟨i, zv, hi, hzv, hzr, hzl, hzc⟩ := zcells_of hz
    obtain ⟨c1, c2, c3⟩ := hw.move hk 1 (by omega) z zv.cells hzc (by rw [← hzl]; simp) (fun j x u hx hu => hzr C j x u hx (by simpa using hu))
    rw [he] at c2 c3
    refine ⟨_, .pointer (some ⟨w.heap.size, 0, none⟩), _, c1, c2, c3, .ptr (by simp [g1]) (by simp [g2]), ?_⟩
    simp [execOp, ho, Instr.alloc, newVar, newRow, zeroValue, typeInfo, hi, hzv]
  · rename_i elem x
    split at h
    · rename_i hall
      simp only [Option.some.injEq, Prod.mk.injEq] at h
      obtain ⟨rfl, rfl⟩ := h
      obtain ⟨hr, hl⟩ := cells_rel hall (ev_rel hf x)
      obtain ⟨c1, c2, c3⟩ := hw.move hk 1 (by omega) (ev f x).cells (a.eval x).cells (fun x hx => List.all_eq_true.1 hall x hx) (by rw [← hl]; simp) (fun j x u hx hu => hr j x u hx (by simpa using hu))
      rw [he] at c2 c3
      refine ⟨_, .pointer (some ⟨w.heap.size, 0, none⟩), _, c1, c2, c3, .ptr (by simp [g1]) (by simp [g2]), ?_⟩
      simp [execOp, ho, Instr.box, newVar, newRow]
    · cases h
  · rename_i t lo co
    split at h
    · rename_i e kl l kc c hu hlv hcv
      split at h
      · rename_i n bb z hn hb hz
        obtain ⟨i, zv, hi, hzv, hzr, hzl, hzc⟩ := zcells_of hz
        obtain ⟨ie, hie, hs⟩ := szT_info hn
        obtain ⟨ib, hib, hby⟩ := byT_info hb
        rw [hi] at hie hib
        injection hie with hie
        injection hib with hib
        subst hie hib
        split at h
        · rename_i hq
          simp only [Option.some.injEq, Prod.mk.injEq] at h
          obtain ⟨rfl, rfl⟩ := h
          have hl := ev_rel hf lo
          have hc := ev_rel hf co
          rw [hlv] at hl
          rw [hcv] at hc
          have el := inv_int hl
          have ec := inv_int hc
          have hr := run_make (P := P) w t e i zv hu hi hzv kl kc l c hq.1 hq.2.1 (by rw [hby]; have := hq.2.2.1; omega) (by have := hq.2.2.2.1; omega)
          have hcn : l.toNat * z.length ≤ c.toNat * i.size := by rw [hs, hq.2.2.2.2.1]; exact Nat.mul_le_mul_right n (by omega)
          have hmade := made_rel (C := C) (n := l.toNat) (m := c.toNat * i.size) hzl (hzr C) (by rw [hq.2.2.2.2.1]; exact hq.2.2.2.2.2) hcn
          obtain ⟨c1, c2, c3⟩ := hw.move hk 1 (by omega) (reps l.toNat z) (madeCells zv.cells (c.toNat * i.size)) (reps_cell hzc) (by rw [length_reps, size_madeCells]; exact hcn) (fun j x u hx hu => hmade j x u hx (by rw [Array.getElem?_toList]; exact hu))
          rw [he] at c2 c3
          refine ⟨_, .slice (some ⟨w.heap.size, 0, none⟩) l.toNat c.toNat, _, c1, c2, c3, ?_, by simp only [execOp, ho, el, ec, Sem.run_bind, hr, Result.andThen_ok, Sem.run_pure]⟩
          refine .msl (by simp [g1]) (by simp [g2]) (by omega) (by have := hq.2.2.2.1; simp only [maxLen]; omega) (fun _ => ⟨rfl, ?_⟩)
          simp [g3, size_madeCells, hs]
        · cases h
      · cases h
    · cases h
  · rename_i t len parts
    split at h
    · rename_i e hu
      split at h
      · rename_i n z hn hz
        obtain ⟨i, zv, hi, hzv, hzr, hzl, hzc⟩ := zcells_of hz
        obtain ⟨ie, hie, hs⟩ := szT_info hn
        rw [hi] at hie
        injection hie with hie
        subst hie
        split at h
        · rename_i hq
          simp only [Option.map_eq_some_iff, Prod.mk.injEq] at h
          obtain ⟨ys, hys, rfl, rfl⟩ := h
          obtain ⟨hl, hp⟩ := parts_rel hf parts
          have hpos : 0 < z.length := by
            rcases Nat.eq_zero_or_pos z.length with h0 | h0
            · rw [← hq.1, h0] at hq; simp at hq
            · exact h0
          have hmade := made_rel (C := C) (n := len) (m := len * i.size) hzl (hzr C) hpos (by rw [hs, hq.1]; exact Nat.le_refl _)
          obtain ⟨cs', q1, q2, q3, q4⟩ := pfill_sound (C := C) (fun i => some (i * n, n)) _ _ (reps len z) ys ((Array.range (len * i.size)).map (zv.cells[· % zv.cells.size]!)) hl hp hmade
            (by rw [length_reps, hq.1, hs]; simp) (reps_cell hzc) hys
          have hr := run_buildSlice (P := P) w t e len _ cs' i zv hu hi hzv (by rw [hs]; have := hq.2.2; omega) (by rw [hs]; have := hq.2.1; omega) (by rw [hs] at q1 ⊢; exact q1)
          obtain ⟨c1, c2, c3⟩ := hw.move hk 1 (by omega) ys cs' q4 (by rw [← q3]; exact Nat.le_refl _) (fun j x u hx hu => q2 j x u hx (by simpa using hu))
          rw [he] at c2 c3
          refine ⟨_, .slice (some ⟨w.heap.size, 0, none⟩) len len, _, c1, c2, c3, ?_, by simp only [execOp, ho, Sem.run_bind, hr, Result.andThen_ok, Sem.run_pure]⟩
          have hln : len ≤ len * n := Nat.le_mul_of_pos_right len (by omega)
          refine .msl (by simp [g1]) (by simp [g2]) (Nat.le_refl _) (by simp only [maxLen]; omega) (fun _ => ⟨rfl, ?_⟩)
          have : ys.length = len * n := by
            rw [pfill_length _ _ _ hys, length_reps, hq.1]
          simp [g3, ← q3, this]
        · cases h
      · cases h
    · cases h
  · rename_i args ts
    split at h
    · rename_i t tx xs len full ys m g hts hal
      split at h
      · rename_i e e' hu hu'
        split at h
        · rename_i sz bb z hn hb hz
          split at h
          · rename_i hq
            simp only [Option.some.injEq, Prod.mk.injEq] at h
            obtain ⟨rfl, rfl⟩ := h
            obtain ⟨x, y, hxy, hx1, hy1⟩ : ∃ x y, args.toList = [x, y] ∧ ev f x = .slice xs len full ∧ ev f y = .slice ys m g := by
              match hat : args.toList, hal with
              | [x, y], hal => simp only [List.map_cons, List.map_nil, List.cons.injEq, and_true] at hal; exact ⟨x, y, rfl, hal.1, hal.2⟩
              | [], hal => simp at hal
              | [_], hal => simp at hal
              | _ :: _ :: _ :: _, hal => simp at hal
            have r1 := ev_rel hf x
            have r2 := ev_rel hf y
            rw [hx1] at r1
            rw [hy1] at r2
            obtain ⟨C', u, w', s1, s2, s3, s4, s5⟩ := pnewA_sound (ty := o.type) hw r1 r2 hu hu' hn hb hz hq hk he hv
            refine ⟨C', u, w', s1, s2, s3, s4, ?_⟩
            have ea : args = #[x, y] := Array.toList_inj.1 (by rw [hxy])
            have et : ts = #[t, tx] := Array.toList_inj.1 (by rw [hts])
            subst ea et
            have hb : ∀ cs, builtin .append #[t, tx] o.type cs #[a.eval x, a.eval y] = (do pure (.value (← Builtin.append_ #[t, tx] o.type #[a.eval x, a.eval y]))) := fun _ => rfl
            simp only [execOp, ho, resolve, invoke, Sem.run_bind, Sem.run_pure, Result.andThen_ok, List.map_toArray, List.map_cons, List.map_nil, hb, s5]
          · cases h
        · cases h
      · cases h
    · cases h
  · cases h

theorem stI_sound {o : Oper} {ids : List Nat} {rs : List (Nat × Nat)} {f : Nat → PV} {v : PV} {H' : Heap} (hd : dstOk N o = true) (hw : WRel C H w) (hf : FRel C N f a) (h : StI P ids rs o f H v H') (next : Act → World → Prop) (Q : Exit → Act → World → Prop)
    (hn : ∀ C' u w', CLe C C' → WRel C' H' w' → Below C.B w w' → FRel C' N (upd f o.dst v) (a.put o.dst u) → next (a.put o.dst u) w') : o.wp P a w next Q := by
  unfold StI at h
  split at h
  · rename_i g args hc
    exact exec_sound hd hw hf (by unfold Exec; rw [hc]; exact h) _ _ hn
  · rename_i hc
    unfold popI at h
    split at h
    · rename_i p hp
      split at h
      · rename_i r b mk hr hb
        split at h
        · rename_i k hk
          split at h
          · rename_i hq
            simp only [Option.some.injEq, Prod.mk.injEq] at h
            obtain ⟨rfl, rfl⟩ := h
            obtain ⟨C', u, w', q1, q2, q3, q4, q5⟩ := pnew_sound (o := o) rfl hw hf hb hk hq.1 hq.2
            unfold Oper.wp
            rw [q5, Oper.upon_value]
            exact hn C' u w' q1 q2 q3 ((hf.mono q1).put _ (dstOk_of hd) q4)
          · cases h
        · cases h
      · cases h
    · exact exec_sound hd hw hf (by unfold Exec; rw [hc]; exact h) _ _ hn

theorem stepI {ops : Array Oper} {ids : List Nat} {pm : List (Nat × List Nat)} {rs : List (Nat × Nat)} {ro : List Nat} : StepG P N ops (ExI P ops.toList ids pm rs ro) := by
  intro o f H v H' C a w hd hw hf he
  rcases he with ⟨h1, h2, h3⟩ | ⟨h1, h2⟩
  · have hwant := want_sound hf h1
    rw [Array.toArray_toList] at hwant
    exact .inl ⟨hwant, h2, h3⟩
  · have hwant := want_sound hf h1
    rw [Array.toArray_toList] at hwant
    exact .inr ⟨hwant, fun next Q hn => stI_sound hd hw hf h2.now _ _ hn⟩

end Go.Proofs.Ytnjnikafhbholaa.Pm

namespace Go.Proofs.Ytnjnikafhbholaa.Pm
set_option linter.all false
set_option linter.unusedVariables false
set_option linter.unusedSimpArgs false
open Go.RowKit

variable {P : Program} {C : Ctx} {H K : Heap} {w : World} {F : Fr} {a : Act} {N : Nat}

/-- It may be read. -/
def okO (ids : List Nat) (pm : List (Nat × List Nat)) (f : Nat → PV) (x : Operand) : Bool := (topId (ev f x)).all fun i => !(ids.elem i) || (atP ids (posO pm x)).elem i
/-- It may be written. -/
def inO (ids : List Nat) (pm : List (Nat × List Nat)) (f : Nat → PV) (x : Operand) : Bool := match topId (ev f x) with
  | [i] => (atP ids (posO pm x)).elem i
  | _ => false
def isMsl : PV → Bool
  | .msl .. => true
  | _ => false
/-- Nothing is appended. -/
def nilApp (f : Nat → PV) (op : Op) : Bool := match op with
  | .call { args, .. } => (match args.toList.map (ev f) with | [.slice _ _ _, .slice _ 0 _] => true | _ => false)
  | _ => false
def chkI (ids : List Nat) (pm : List (Nat × List Nat)) (rs : List (Nat × Nat)) (o : Oper) (f : Nat → PV) : Bool := match resI rs o with
  | some _ => true
  | none => match kindI o.op with
    | 0 => true
    | 1 => o.op.operands.toList.all (okO ids pm f)
    | 2 => o.op.operands.toList.all (okO ids pm f)
    | 3 => (match fstO o.op with | some x => inO ids pm f x | none => false)
    | 4 => (match fstO o.op with | some x => (inO ids pm f x && isMsl (ev f x) && o.op.operands.toList.all (okO ids pm f)) || nilApp f o.op | none => false)
    | 5 => (match fstO o.op with | some x => inO ids pm f x && o.op.operands.toList.all (okO ids pm f) | none => false)
    | 6 => (match fstO o.op with | some x => inO ids pm f x && o.op.operands.toList.all (okO ids pm f) | none => false)
    | _ => false

theorem okO_of {ids : List Nat} {pm : List (Nat × List Nat)} {f : Nat → PV} {op : Op} (h : op.operands.toList.all (okO ids pm f) = true) : ∀ x ∈ op.operands.toList, ∀ i ∈ topId (ev f x), i ∉ ids ∨ i ∈ atP ids (opPos pm op) := fun x hx i hi => by
  have := List.all_eq_true.1 (List.all_eq_true.1 h x hx) i hi
  simp only [Bool.or_eq_true, Bool.not_eq_true', List.elem_eq_mem, decide_eq_true_eq, decide_eq_false_iff_not] at this
  rcases this with h | h
  · exact .inl h
  · obtain ⟨p, hp, e⟩ := atP_mem h
    exact .inr (List.mem_filterMap.2 ⟨p, List.mem_flatten.2 ⟨_, List.mem_map.2 ⟨x, hx, rfl⟩, hp⟩, e⟩)
theorem okO_ids {ids : List Nat} {pm : List (Nat × List Nat)} {f : Nat → PV} {op : Op} (h : op.operands.toList.all (okO ids pm f) = true) : ∀ i ∈ opIds op f, i ∉ ids ∨ i ∈ atP ids (opPos pm op) := fun i hi => by
  obtain ⟨l, hl, hi⟩ := List.mem_flatten.1 hi
  obtain ⟨x, hx, rfl⟩ := List.mem_map.1 hl
  exact okO_of h x hx i hi
theorem Agr.rd {ids : List Nat} {fp : Fp} {pm : List (Nat × List Nat)} {op : Op} (hA : Agr ids fp H K) (hr : fp.r = opPos pm op) {i : Nat} (h : i ∉ ids ∨ i ∈ atP ids (opPos pm op)) : K[i]? = H[i]? := by
  rcases h with h | h
  · exact hA.out i h
  · exact hA.inn i (.inl (by rw [hr]; exact h))
theorem inO_of {ids : List Nat} {pm : List (Nat × List Nat)} {f : Nat → PV} {x : Operand} {i : Nat} (h : inO ids pm f x = true) (hi : topId (ev f x) = [i]) : i ∈ atP ids (posO pm x) := by
  unfold inO at h
  rw [hi] at h
  simpa [List.elem_eq_mem] using h

theorem kind_pure {op : Op} (h : kindI op = 0) : pureOp op = true := by
  unfold kindI at h
  split at h
  · assumption
  · split at h
    · cases h
    · split at h
      · split at h <;> cases h
      · split at h <;> cases h
theorem kind_low {op : Op} (h : kindI op = 1 ∨ kindI op = 2) : eff op = false ∧ (kindI op = 1 → liveOnly op = true) := by
  unfold kindI at h ⊢
  split at h
  · rcases h with h | h <;> cases h
  · rename_i hp
    split at h
    · rcases h with h | h <;> cases h
    · rename_i hc
      split at h
      · rename_i he
        refine ⟨he, ?_⟩
        split
        · intro _; assumption
        · intro h; cases h
      · split at h <;> rcases h with h | h <;> cases h
theorem kind_eff {op : Op} {n : Nat} (h : kindI op = n + 3) (hn : n ≤ 3) : eff op = true ∧ pureOp op = false ∧ isCall op = false := by
  unfold kindI at h
  split at h
  · cases h
  · rename_i hp
    split at h
    · injection h with h; injection h with h; injection h with h; omega
    · rename_i hc
      split at h
      · split at h
        · injection h with h; cases h
        · injection h with h; injection h with h; cases h
      · rename_i he; exact ⟨he, hp, hc⟩
theorem kind_store {op : Op} (h : kindI op = 3) : ∃ t x y, op = .store t x y := by
  obtain ⟨h1, h2, h3⟩ := kind_eff (n := 0) h (by omega)
  unfold kindI at h
  rw [h1, h2, h3] at h
  dsimp only at h
  split at h <;> first | exact ⟨_, _, _, rfl⟩ | cases h
theorem kind_append {op : Op} (h : kindI op = 4) : ∃ args ts, op = .call { callee := .builtin .append, args := args, argTypes := ts } := by
  obtain ⟨h1, h2, h3⟩ := kind_eff (n := 1) h (by omega)
  unfold kindI at h
  rw [h1, h2, h3] at h
  dsimp only at h
  split at h <;> first | exact ⟨_, _, rfl⟩ | cases h
theorem kind_copy {op : Op} (h : kindI op = 5) : ∃ args ts, op = .call { callee := .builtin .copy, args := args, argTypes := ts } := by
  obtain ⟨h1, h2, h3⟩ := kind_eff (n := 2) h (by omega)
  unfold kindI at h
  rw [h1, h2, h3] at h
  dsimp only at h
  split at h <;> first | exact ⟨_, _, rfl⟩ | cases h
theorem kind_map {op : Op} (h : kindI op = 6) : ∃ t m k x, op = .mapUpdate t m k x ∨ op = .insert t m k x := by
  obtain ⟨h1, h2, h3⟩ := kind_eff (n := 3) h (by omega)
  unfold kindI at h
  rw [h1, h2, h3] at h
  dsimp only at h
  split at h <;> first | exact ⟨_, _, _, _, .inl rfl⟩ | exact ⟨_, _, _, _, .inr rfl⟩ | cases h

theorem appSrc_c {e sz tx : Nat} {x : PV} (hx : ∀ id ∈ topId x, K[id]? = H[id]?) : appSrc P K e sz tx x = appSrc P H e sz tx x := by
  unfold appSrc
  split <;> try rfl
  exact scells_c hx
theorem pmapOf_c {t : TypeId} {m : PV} (hx : ∀ id ∈ topId m, K[id]? = H[id]?) : pmapOf P K t m = pmapOf P H t m := by
  unfold pmapOf
  split <;> try rfl
  rename_i kt e id ver hu
  rw [hx id (by simp [topId])]

/-- The writes: one block, and the same in every heap that agrees. -/
theorem pstore_loc {t : TypeId} {x v : PV} {H' : Heap} (h : pstore P H t x v = some H') : ∃ id k b, topId x = [id] ∧ H[id]? = some k ∧ b.ver = k.ver ∧ H' = H.set id b ∧ ∀ K : Heap, K[id]? = H[id]? → pstore P K t x v = some (K.set id b) := by
  unfold pstore at h
  split at h
  · rename_i id ver off
    split at h
    · rename_i k hk
      split at h
      · rename_i hv
        simp only [Option.map_eq_some_iff] at h
        obtain ⟨c, hc, rfl⟩ := h
        refine ⟨id, k, ⟨k.e, k.ver, c⟩, rfl, hk, rfl, rfl, fun K hK => ?_⟩
        unfold pstore
        simp only [hK, hk, hv, if_true, hc, Option.map_some]
      · cases h
    · cases h
  · cases h
theorem pmset_loc {t : TypeId} {m k x : PV} {H' : Heap} (h : pmset P H t m k x = some H') : ∃ id b' b, topId m = [id] ∧ H[id]? = some b' ∧ b.ver = b'.ver ∧ H' = H.set id b ∧ ∀ K : Heap, K[id]? = H[id]? → pmset P K t m k x = some (K.set id b) := by
  unfold pmset at h
  split at h
  · rename_i e d id b hm
    have hq : topId m = [id] ∧ H[id]? = some b := by
      unfold pmapOf at hm
      split at hm
      · rename_i kt e' id' ver hu
        split at hm
        · rename_i d' b' hs hb
          split at hm
          · simp only [Option.some.injEq, Prod.mk.injEq] at hm
            obtain ⟨_, _, rfl, rfl⟩ := hm
            exact ⟨rfl, hb⟩
          · cases hm
        · cases hm
      · cases hm
    have key : ∀ K : Heap, K[id]? = H[id]? → pmapOf P K t m = some (e, d, id, b) := fun K hK => by
      rw [pmapOf_c (H := H) (fun i hi => by rw [hq.1] at hi; simp at hi; rw [hi]; exact hK), hm]
    split at h
    · rename_i i v hf
      simp only [Option.some.injEq] at h
      subst h
      exact ⟨id, b, ⟨b.e, b.ver, b.cells.set i (.tup [k, x])⟩, hq.1, hq.2, rfl, rfl, fun K hK => by unfold pmset; rw [key K hK]; simp only [hf]⟩
    · rename_i hf
      simp only [Option.some.injEq] at h
      subst h
      exact ⟨id, b, ⟨b.e, b.ver, b.cells ++ [.tup [k, x]]⟩, hq.1, hq.2, rfl, rfl, fun K hK => by unfold pmset; rw [key K hK]; simp only [hf]⟩
    · cases h
  · cases h
theorem pcopy_loc {t : TypeId} {d x v : PV} {H' : Heap} {id : Nat} (hd : topId d = [id]) (h : pcopy P H t d x = some (v, H')) : ∃ k b, H[id]? = some k ∧ b.ver = k.ver ∧ H' = H.set id b ∧ ∀ K : Heap, K[id]? = H[id]? → (∀ i ∈ topId x, K[i]? = H[i]?) → pcopy P K t d x = some (v, K.set id b) := by
  unfold pcopy at h
  split at h
  · rename_i e hu
    split at h
    · rename_i sz hs
      split at h
      · rename_i id' ver off len z g
        simp only [topId, List.cons.injEq, and_true] at hd
        subst hd
        split at h
        · rename_i k ys n hk hy
          split at h
          · rename_i hq
            simp only [Option.some.injEq, Prod.mk.injEq] at h
            obtain ⟨rfl, rfl⟩ := h
            refine ⟨k, ⟨k.e, ver, splice k.cells off (ys.take (min n len * sz))⟩, hk, hq.1.symm, rfl, fun K hK hx => ?_⟩
            unfold pcopy
            simp only [hu, hs, hK, hk, scells_c hx, hy]
            rw [if_pos hq]
          · cases h
        · cases h
      · simp [topId] at hd
      · cases h
    · cases h
  · cases h
theorem pappend_loc {t tx : TypeId} {s x v : PV} {H' : Heap} {id : Nat} (hm : isMsl s = true) (hd : topId s = [id]) (h : pappend P H t tx s x = some (v, H')) : ∃ k b, H[id]? = some k ∧ H' = H.set id b ∧ ∀ K : Heap, K[id]? = H[id]? → (∀ i ∈ topId x, K[i]? = H[i]?) → pappend P K t tx s x = some (v, K.set id b) := by
  unfold pappend at h
  split at h
  · rename_i e hu
    split at h
    · rename_i sz bb z hs hb hz
      split at h
      · rename_i hq0
        split at h
        · rename_i news n hsrc
          split at h
          · simp [isMsl] at hm
          · rename_i id' ver off len sz' g
            simp only [topId, List.cons.injEq, and_true] at hd
            subst hd
            split at h
            · rename_i k hk
              split at h
              · rename_i hq
                split at h
                · rename_i hn
                  simp only [Option.some.injEq, Prod.mk.injEq] at h
                  obtain ⟨rfl, rfl⟩ := h
                  have hset : ∀ K : Heap, K[id']? = some k → K.set id' k = K := fun K hK => List.ext_getElem? fun i => by
                    by_cases e : id' = i
                    · subst e; rw [List.getElem?_set_self (List.getElem?_eq_some_iff.1 hK).1, hK]
                    · rw [List.getElem?_set_ne e]
                  refine ⟨k, k, hk, (hset _ hk).symm, fun K hK hx => ?_⟩
                  unfold pappend
                  simp only [hu, hs, hb, hz, appSrc_c hx, hsrc, hK, hk]
                  rw [if_pos hq0, if_pos hq, if_pos hn, hset K (hK.trans hk)]
                · rename_i hn
                  simp only [Option.some.injEq, Prod.mk.injEq] at h
                  obtain ⟨rfl, rfl⟩ := h
                  refine ⟨k, ⟨e, (k.cells ++ news).length, k.cells ++ news⟩, hk, rfl, fun K hK hx => ?_⟩
                  unfold pappend
                  simp only [hu, hs, hb, hz, appSrc_c hx, hsrc, hK, hk]
                  rw [if_pos hq0, if_pos hq, if_neg hn]
              · cases h
            · cases h
          · cases h
        · cases h
      · cases h
    · cases h
  · cases h

theorem pappend_nil {t tx : TypeId} {xs ys : List PV} {len : Nat} {full g : Bool} {v : PV} {H' : Heap} (h : pappend P H t tx (.slice xs len full) (.slice ys 0 g) = some (v, H')) : H' = H ∧ ∀ K, pappend P K t tx (.slice xs len full) (.slice ys 0 g) = some (v, K) := by
  have hs : ∀ K : Heap, ∀ e sz, appSrc P K e sz tx (.slice ys 0 g) = appSrc P H e sz tx (.slice ys 0 g) := fun K e sz => appSrc_c fun i hi => by simp [topId] at hi
  have h0 : ∀ e sz news n, appSrc P H e sz tx (.slice ys 0 g) = some (news, n) → n = 0 := fun e sz news n h => by
    unfold appSrc at h
    split at h
    · unfold scells at h
      dsimp only at h
      split at h
      · simp only [Option.some.injEq, Prod.mk.injEq] at h; exact h.2.symm
      · cases h
    all_goals first | (rename_i hx; cases hx; done) | (cases h; done) | simp_all
  unfold pappend at h ⊢
  simp only [hs]
  split at h
  · split at h
    · split at h
      · split at h
        · rename_i news n hsrc
          have := h0 _ _ _ _ hsrc
          subst this
          simp only [if_true, Option.some.injEq, Prod.mk.injEq] at h
          obtain ⟨rfl, rfl⟩ := h
          exact ⟨rfl, fun K => by simp_all⟩
        · cases h
      · cases h
    · cases h
  · cases h

theorem popI_loc {ids : List Nat} {pm : List (Nat × List Nat)} {rs : List (Nat × Nat)} {ro : List Nat} {o : Oper} {f : Nat → PV} {v : PV} {H' : Heap} (hc : pcallee o.op f = none) (hk : chkI ids pm rs o f = true) (h : popI P ids rs o f H = some (v, H')) :
    Loc P ids rs (fpOf pm rs ro o) o f H v H' := by
  have st : ∀ {K K' : Heap}, popI P ids rs o f K = some (v, K') → StI P ids rs o f K v K' := fun {K K'} hp => by unfold StI; rw [hc]; exact hp
  unfold chkI at hk
  cases hr : resI rs o with
  | some p =>
    have hfp : fpOf pm rs ro o = ⟨[], [], [p], [p]⟩ := by unfold fpOf; rw [hr]
    unfold popI at h
    rw [hr] at h
    dsimp only at h
    split at h
    · rename_i r b mk hrp hb
      split at h
      · rename_i k hkr
        split at h
        · rename_i hq
          simp only [Option.some.injEq, Prod.mk.injEq] at h
          obtain ⟨rfl, rfl⟩ := h
          have hin : r ∈ atP ids [p] := List.mem_filterMap.2 ⟨p, by simp, hrp⟩
          refine Loc.set hkr (by rw [hfp]; exact hin) (.inr (by rw [hfp]; exact hin)) fun K hK => st ?_
          unfold popI
          rw [hr]
          simp only [hrp, hb, hK.inn r (.inr (by rw [hfp]; exact hin)), hkr]
          rw [if_pos hq]
        · cases h
      · cases h
    · cases h
  | none =>
    rw [hr] at hk
    have pI : ∀ K, popI P ids rs o f K = pop P o.op f K := fun K => by unfold popI; rw [hr]
    rw [pI] at h
    have st : ∀ {K K' : Heap}, pop P o.op f K = some (v, K') → StI P ids rs o f K v K' := fun {K K'} hp => st (by rw [pI]; exact hp)
    dsimp only at hk
    split at hk
    · rename_i hkind
      obtain ⟨rfl, _⟩ := pop_pure (kind_pure hkind) h H
      exact Loc.read fun K hK => st (pop_pure (kind_pure hkind) h K).2
    · rename_i hkind
      have hfp : fpOf pm rs ro o = ⟨[], opPos pm o.op, [], []⟩ := by unfold fpOf; rw [hr, hkind]; rfl
      obtain ⟨he, hl⟩ := kind_low (.inl hkind)
      obtain rfl := pop_noeff he h
      refine Loc.read fun K hK => st (pop_live (hl hkind) (fun i hi => ?_) h)
      rcases okO_ids hk i hi with h | h
      · unfold VEq; rw [hK.out i h]
      · exact hK.liv i (by rw [hfp]; exact h)
    · rename_i hkind
      have hfp : fpOf pm rs ro o = ⟨opPos pm o.op, [], [], []⟩ := by unfold fpOf; rw [hr, hkind]; rfl
      obtain ⟨he, _⟩ := kind_low (.inr hkind)
      obtain rfl := pop_noeff he h
      exact Loc.read fun K hK => st (pop_read he (fun i hi => hK.rd (by rw [hfp]) (okO_ids hk i hi)) h)
    · rename_i hkind
      have hfp : fpOf pm rs ro o = ⟨[], [], fstP pm o.op, []⟩ := by unfold fpOf; rw [hr, hkind]; rfl
      obtain ⟨t, x, y, ho⟩ := kind_store hkind
      rw [ho] at h hk hfp
      simp only [pop, Option.map_eq_some_iff, Prod.mk.injEq] at h
      obtain ⟨H1, h, rfl, rfl⟩ := h
      obtain ⟨id, k, b, q1, q2, q3, rfl, q5⟩ := pstore_loc h
      have hin : id ∈ atP ids (posO pm x) := inO_of hk q1
      refine Loc.set q2 (by rw [hfp]; exact hin) (.inl q3) fun K hK => st ?_
      rw [ho]
      simp only [pop, q5 K (hK.inn id (.inr (by rw [hfp]; exact hin))), Option.map_some]
    · rename_i hkind
      have hfp : fpOf pm rs ro o = ⟨opPos pm o.op, [], fstP pm o.op, fstP pm o.op⟩ := by unfold fpOf; rw [hr, hkind]; rfl
      obtain ⟨args, ts, ho⟩ := kind_append hkind
      have hops : o.op.operands.toList = args.toList := by rw [ho]; simp [Op.operands, Call.operands]
      have hf1 : fstO o.op = args.toList[0]? := by rw [ho]; rfl
      split at hk
      · rename_i x hx
        simp only [Bool.or_eq_true, Bool.and_eq_true] at hk
        rcases hk with hk | hk
        rotate_left
        · unfold nilApp at hk
          rw [ho] at h hk
          dsimp only at hk
          split at hk
          · rename_i xs len full ys g hal
            have e1 : ∀ K, pop P (.call { callee := .builtin .append, args := args, argTypes := ts }) f K = pbuiltin P K .append ts.toList [.slice xs len full, .slice ys 0 g] := fun K => by simp only [pop, hal]
            rw [e1] at h
            match htl : ts.toList, h with
            | [t, tx], h =>
              simp only [pbuiltin] at h
              obtain ⟨rfl, hK⟩ := pappend_nil h
              refine Loc.read fun K _ => st ?_
              rw [ho, e1, htl]
              exact hK K
            | [], h => simp [pbuiltin] at h
            | [_], h => simp [pbuiltin] at h
            | _ :: _ :: _ :: _, h => simp [pbuiltin] at h
          · cases hk
        obtain ⟨⟨k1, k2⟩, k3⟩ := hk
        have hfs : fstP pm o.op = posO pm x := by unfold fstP; rw [hx]
        rw [hf1] at hx
        rw [ho] at h
        simp only [pop] at h
        match hal : args.toList, htl : ts.toList, hx, h with
        | [x', y], [t, tx], hx, h =>
          simp only [List.getElem?_cons_zero, Option.some.injEq] at hx
          subst hx
          simp only [List.map_cons, List.map_nil, pbuiltin] at h
          obtain ⟨id, hid⟩ : ∃ id, topId (ev f x') = [id] := by
            cases hv : ev f x' <;> rw [hv] at k2 <;> simp [isMsl] at k2
            exact ⟨_, rfl⟩
          have hin : id ∈ atP ids (posO pm x') := inO_of k1 hid
          obtain ⟨k, b, q2, rfl, q5⟩ := pappend_loc k2 hid h
          refine Loc.set q2 (by rw [hfp]; dsimp only; rw [hfs]; exact hin) (.inr (by rw [hfp]; dsimp only; rw [hfs]; exact hin)) fun K hK => st ?_
          rw [ho]
          simp only [pop, hal, htl, List.map_cons, List.map_nil, pbuiltin]
          exact q5 K (hK.inn id (.inr (by rw [hfp]; dsimp only; rw [hfs]; exact hin))) fun i hi => hK.rd (by rw [hfp]) (okO_of k3 y (by rw [hops, hal]; simp) i hi)
        | [], _, hx, h => simp at hx
        | [_], _, hx, h => simp [pbuiltin] at h
        | _ :: _ :: _ :: _, _, hx, h => simp [pbuiltin] at h
        | [_, _], [], hx, h => simp [pbuiltin] at h
        | [_, _], [_], hx, h => simp [pbuiltin] at h
        | [_, _], _ :: _ :: _ :: _, hx, h => simp [pbuiltin] at h
      · cases hk
    · rename_i hkind
      have hfp : fpOf pm rs ro o = ⟨opPos pm o.op, [], fstP pm o.op, []⟩ := by unfold fpOf; rw [hr, hkind]; rfl
      obtain ⟨args, ts, ho⟩ := kind_copy hkind
      have hops : o.op.operands.toList = args.toList := by rw [ho]; simp [Op.operands, Call.operands]
      have hf1 : fstO o.op = args.toList[0]? := by rw [ho]; rfl
      split at hk
      · rename_i x hx
        simp only [Bool.and_eq_true] at hk
        obtain ⟨k1, k3⟩ := hk
        have hfs : fstP pm o.op = posO pm x := by unfold fstP; rw [hx]
        rw [hf1] at hx
        rw [ho] at h
        simp only [pop] at h
        match hal : args.toList, htl : ts.toList, hx, h with
        | [x', y], [t, tx], hx, h =>
          simp only [List.getElem?_cons_zero, Option.some.injEq] at hx
          subst hx
          simp only [List.map_cons, List.map_nil, pbuiltin] at h
          obtain ⟨id, hid⟩ : ∃ id, topId (ev f x') = [id] := by
            unfold inO at k1
            split at k1
            · exact ⟨_, by assumption⟩
            · cases k1
          have hin : id ∈ atP ids (posO pm x') := inO_of k1 hid
          obtain ⟨k, b, q2, q3, rfl, q5⟩ := pcopy_loc hid h
          refine Loc.set q2 (by rw [hfp]; dsimp only; rw [hfs]; exact hin) (.inl q3) fun K hK => st ?_
          rw [ho]
          simp only [pop, hal, htl, List.map_cons, List.map_nil, pbuiltin]
          exact q5 K (hK.inn id (.inr (by rw [hfp]; dsimp only; rw [hfs]; exact hin))) fun i hi => hK.rd (by rw [hfp]) (okO_of k3 y (by rw [hops, hal]; simp) i hi)
        | [], _, hx, h => simp at hx
        | [_], _, hx, h => simp [pbuiltin] at h
        | _ :: _ :: _ :: _, _, hx, h => simp [pbuiltin] at h
        | [_, _], [], hx, h => simp [pbuiltin] at h
        | [_, _], [_], hx, h => simp [pbuiltin] at h
        | [_, _], _ :: _ :: _ :: _, hx, h => simp [pbuiltin] at h
      · cases hk
    · rename_i hkind
      have hfp : fpOf pm rs ro o = ⟨opPos pm o.op, [], fstP pm o.op, []⟩ := by unfold fpOf; rw [hr, hkind]; rfl
      obtain ⟨t, m, kk, x, ho⟩ := kind_map hkind
      have hp2 : ∀ K, pop P o.op f K = (pmset P K t (ev f m) (ev f kk) (ev f x)).map fun H' => (.tup [], H') := fun K => by rcases ho with ho | ho <;> rw [ho] <;> rfl
      have hf1 : fstO o.op = some m := by rcases ho with ho | ho <;> rw [ho] <;> rfl
      have hfs : fstP pm o.op = posO pm m := by unfold fstP; rw [hf1]
      rw [hf1] at hk
      simp only [Bool.and_eq_true] at hk
      obtain ⟨k1, k3⟩ := hk
      rw [hp2] at h
      simp only [Option.map_eq_some_iff, Prod.mk.injEq] at h
      obtain ⟨H1, h, rfl, rfl⟩ := h
      obtain ⟨id, k, b, q1, q2, q3, rfl, q5⟩ := pmset_loc h
      have hin : id ∈ atP ids (posO pm m) := inO_of k1 q1
      refine Loc.set q2 (by rw [hfp]; dsimp only; rw [hfs]; exact hin) (.inl q3) fun K hK => st ?_
      rw [hp2, q5 K (hK.inn id (.inr (by rw [hfp]; dsimp only; rw [hfs]; exact hin)))]
      rfl
    · cases hk

/-! ### the evaluation of such a region; 'dr': its order is drawn -/
def stpI (P : Program) (dr : Bool) (ids : List Nat) (pm : List (Nat × List Nat)) (rs : List (Nat × Nat)) (ds : List (Option Nat)) (o : Oper) (F : Fr) (H : Heap) : Option (Fr × Heap) :=
  match asked ds F o with
  | none => none
  | some b => cond b (match !dr || chkI ids pm rs o (slot F) with
    | true => (match popI P ids rs o (slot F) H with | some (v, H') => some (put F o.dst v, H') | none => none)
    | false => none) (some (put F o.dst (.tup []), H))
def VCj (P : Program) (dr : Bool) (ids : List Nat) (fp : Fp) (rs : List (Nat × Nat)) (o : Oper) (F : Fr) (H : Heap) (K : Fr → Heap → Prop) : Prop :=
  match pcallee o.op (slot F) with
  | some (g, args) => ∃ v H', (match dr with | true => Loc P ids rs fp o (slot F) H v H' | false => CallOk P g args H v H') ∧ K (put F o.dst v) H'
  | none => False
def VCi (P : Program) (dr : Bool) (ids : List Nat) (fp : Fp) (rs : List (Nat × Nat)) (ds : List (Option Nat)) (o : Oper) (F : Fr) (H : Heap) (K : Fr → Heap → Prop) : Prop :=
  match asked ds F o with
  | none => False
  | some b => (b = true → VCj P dr ids fp rs o F H K) ∧ (b = false → K (put F o.dst (.tup [])) H)
def VOi (P : Program) (dr : Bool) (ids : List Nat) (pm : List (Nat × List Nat)) (rs : List (Nat × Nat)) (ro : List Nat) (ds : List (Option Nat)) : List Oper → Option (Fr × Heap) → (Fr → Heap → Prop) → Prop
  | _, none, _ => False
  | [], some (F, H), K => K F H
  | o :: r, some (F, H), K => match isCall o.op with
    | false => VOi P dr ids pm rs ro ds r (stpI P dr ids pm rs ds o F H) K
    | true => VCi P dr ids (fpOf pm rs ro o) rs ds o F H fun F' H' => VOi P dr ids pm rs ro ds r (some (F', H')) K
def VRi (P : Program) (dr : Bool) (ids : List Nat) (pm : List (Nat × List Nat)) (rs : List (Nat × Nat)) (ro : List Nat) (ds : List (Option Nat)) (r : List Oper) (K : Fr → Heap → Prop) (F : Fr) (H : Heap) : Prop := VOi P dr ids pm rs ro ds r (some (F, H)) K
theorem VOi_nil (dr : Bool) (ids : List Nat) (pm : List (Nat × List Nat)) (rs : List (Nat × Nat)) (ro : List Nat) (ds : List (Option Nat)) (K : Fr → Heap → Prop) (F : Fr) (H : Heap) : VOi P dr ids pm rs ro ds [] (some (F, H)) K = K F H := rfl
theorem VOi_none (dr : Bool) (ids : List Nat) (pm : List (Nat × List Nat)) (rs : List (Nat × Nat)) (ro : List Nat) (ds : List (Option Nat)) (l : List Oper) (K : Fr → Heap → Prop) : VOi P dr ids pm rs ro ds l none K = False := by cases l <;> rfl
theorem VOi_step (dr : Bool) (ids : List Nat) (pm : List (Nat × List Nat)) (rs : List (Nat × Nat)) (ro : List Nat) (ds : List (Option Nat)) (o : Oper) (r : List Oper) (K : Fr → Heap → Prop) (F : Fr) (H : Heap) :
    VOi P dr ids pm rs ro ds (o :: r) (some (F, H)) K = match isCall o.op with | false => VOi P dr ids pm rs ro ds r (stpI P dr ids pm rs ds o F H) K | true => VCi P dr ids (fpOf pm rs ro o) rs ds o F H (VRi P dr ids pm rs ro ds r K) := by
  cases h : isCall o.op with
  | false => simp only [VOi, h]
  | true => simp only [VOi, h]; rfl
theorem VOi_cond {dr : Bool} {ids : List Nat} {pm : List (Nat × List Nat)} {rs : List (Nat × Nat)} {ro : List Nat} {ds : List (Option Nat)} {l : List Oper} {K : Fr → Heap → Prop} {x : Bool} {A B : Option (Fr × Heap)} (h1 : x = true → VOi P dr ids pm rs ro ds l A K) (h2 : x = false → VOi P dr ids pm rs ro ds l B K) : VOi P dr ids pm rs ro ds l (cond x A B) K := by
  cases x with
  | true => exact h1 rfl
  | false => exact h2 rfl

/-- A call that writes nothing and reads nothing of what is written. -/
theorem VCj.read {dr : Bool} {ids : List Nat} {fp : Fp} {rs : List (Nat × Nat)} {o : Oper} {K : Fr → Heap → Prop} {g : FuncId} {args : List PV} {v : PV} (h : ∀ L, Agr ids fp H L → CallOk P g args L v L) (hc : pcallee o.op (slot F) = some (g, args)) (hk : K (put F o.dst v) H) : VCj P dr ids fp rs o F H K := by
  unfold VCj
  simp only [hc]
  refine ⟨v, H, ?_, hk⟩
  cases dr with
  | false => exact h H (.refl _ _ _)
  | true => exact Loc.read fun L hL => by unfold StI; rw [hc]; exact h L hL
/-- A call that writes one block. -/
theorem VCj.wr1 {dr : Bool} {ids : List Nat} {fp : Fp} {rs : List (Nat × Nat)} {o : Oper} {K : Fr → Heap → Prop} {g : FuncId} {args : List PV} {v : PV} {id : Nat} {k b : Blk} (hkk : H[id]? = some k) (h : ∀ L : Heap, L[id]? = some k → Agr ids fp H L → CallOk P g args L v (L.set id b)) (hw : (atP ids fp.w).elem id = true) (hv : b.ver = k.ver ∨ (atP ids fp.v).elem id = true)
    (hc : pcallee o.op (slot F) = some (g, args)) (hk : K (put F o.dst v) (H.set id b)) : VCj P dr ids fp rs o F H K := by
  unfold VCj
  simp only [hc]
  refine ⟨v, H.set id b, ?_, hk⟩
  have hw' : id ∈ atP ids fp.w := by simpa [List.elem_eq_mem] using hw
  cases dr with
  | false => exact h H hkk (.refl _ _ _)
  | true => exact Loc.set hkk hw' (by rcases hv with h | h; exact .inl h; exact .inr (by simpa [List.elem_eq_mem] using h)) fun L hL => by unfold StI; rw [hc]; exact h L ((hL.inn id (.inr hw')).trans hkk) hL

theorem asked_call {op : Op} (h : isCall op = false) (f : Nat → PV) : pcallee op f = none := by
  unfold pcallee
  split
  · simp [isCall] at h
  · rfl
theorem VOi_run {all : List Oper} {ids : List Nat} {pm : List (Nat × List Nat)} {rs : List (Nat × Nat)} {ro : List Nat} {K : Fr → Heap → Prop} : ∀ (l : List Oper) (F : Fr) (H : Heap), VOi P true ids pm rs ro (all.map (·.dst)) l (some (F, H)) K → RunG (ExI P all ids pm rs ro) l (slot F) H (fun f H' => ∃ F', f = slot F' ∧ K F' H')
  | [], F, H, h => ⟨F, rfl, h⟩
  | o :: r, F, H, h => by
    simp only [VOi] at h
    have go : ∀ v H', ExI P all ids pm rs ro o (slot F) H v H' → VOi P true ids pm rs ro (all.map (·.dst)) r (some (put F o.dst v, H')) K → RunG (ExI P all ids pm rs ro) (o :: r) (slot F) H (fun f H' => ∃ F', f = slot F' ∧ K F' H') := fun v H' he hr => by
      refine ⟨v, H', he, ?_⟩
      rw [← get_put]
      exact VOi_run r _ _ hr
    cases hc : isCall o.op with
    | false =>
      simp only [hc] at h
      unfold stpI at h
      split at h
      · rw [VOi_none] at h; exact h.elim
      · rename_i b hb
        cases b with
        | false => exact go _ _ (.inl ⟨asked_want all F o hb, rfl, rfl⟩) h
        | true =>
          simp only [cond_true, Bool.not_true, Bool.false_or] at h
          split at h
          · rename_i hk
            split at h
            · rename_i v H' hp
              exact go v H' (.inr ⟨asked_want all F o hb, popI_loc (asked_call hc _) hk hp⟩) h
            · rw [VOi_none] at h; exact h.elim
          · rw [VOi_none] at h; exact h.elim
    | true =>
      simp only [hc] at h
      unfold VCi at h
      split at h
      · exact h.elim
      · rename_i b hb
        cases b with
        | false => exact go _ _ (.inl ⟨asked_want all F o hb, rfl, rfl⟩) (h.2 rfl)
        | true =>
          have h := h.1 rfl
          unfold VCj at h
          split at h
          · rename_i fn args hp
            obtain ⟨v, H', h1, h2⟩ := h
            exact go v H' (.inr ⟨asked_want all F o hb, h1⟩) h2
          · exact h.elim
/-- ████ A region in any order, with footprints. ████ -/
theorem PW.drawi {E : Env} {Q : Exit → Fr → Heap → Prop} {id : Nat} {ops : Array Oper} (ids : List Nat) (pm : List (Nat × List Nat)) (rs : List (Nat × Nat)) (ro : List Nat) (hm : P.follows .mixedOrders = true) (hd : drawGs (compatI (ops.toList.map (·.dst)) pm rs ro) E.N ops.toList = true) (hnd : ids.Nodup)
    (h : ∀ K : Fr → Heap → Prop, (∀ F' H', Q .normal F' H' → K F' H') → VOi P true ids pm rs ro (ops.toList.map (·.dst)) ops.toList (some (F, H)) K) : PW P E (.region id ops true) F H Q := fun hs C a w hdf hw hf => by
  refine wp_region_any hm ?_
  have hr := VOi_run (P := P) _ _ _ (h (fun F' H' => Q .normal F' H') fun _ _ h => h)
  have hall : ∀ i, i < ops.toList.length → drawG (compatI (ops.toList.map (·.dst)) pm rs ro) (masks ops.toList) E.N ops.toList i = true := by
    intro i hi
    unfold drawGs at hd
    exact List.all_eq_true.1 hd i (List.mem_range.2 hi)
  refine any_gen (P := P) hall (swapI hnd) stepI ops.size (Array.replicate ops.size false) (slot F) H C a w.drew (by simp) ?_ (by rw [left_all]; simp) (by rw [left_all, all_ops]; exact hr) hdf hw.drew hf ?_
  · intro i o ho hl j hj
    have hi : i < ops.size := (Array.getElem?_eq_some_iff.1 ho).1
    simp [Array.getD, hi] at hl
  · rintro C' f' H' a' w' p1 p2 p3 p4 p5 ⟨F', rfl, p6⟩
    exact ⟨C', F', H', p1.toN _, p2, p3, ((Below.refl C.B w).drew).trans p4, p5, p6⟩

/-! ### in the order of the text, with reserved places -/
theorem seqI {all : List Oper} {ids : List Nat} {pm : List (Nat × List Nat)} {rs : List (Nat × Nat)} {ro : List Nat} {K : Fr → Heap → Prop} : ∀ (l : List Oper) (F : Fr) (H : Heap), l.all (dstOk N) = true → VOi P false ids pm rs ro (all.map (·.dst)) l (some (F, H)) K → ∀ (C : Ctx) (a : Act) (w : World), a.defers = [] → WRel C H w → FRel C N (slot F) a →
    ∀ Q : Exit → Act → World → Prop, (∀ C' F' H' a' w', CLe C C' → a'.defers = [] → WRel C' H' w' → Below C.B w w' → FRel C' N (slot F') a' → K F' H' → Q .normal a' w') → wpList P all.toArray Q l a w
  | [], F, H, _, h, C, a, w, hd, hw, hf, Q, hQ => hQ C F H a w (.refl _) hd hw (.refl _ _) hf h
  | o :: r, F, H, hall, h, C, a, w, hd, hw, hf, Q, hQ => by
    simp only [List.all_cons, Bool.and_eq_true] at hall
    simp only [VOi] at h
    have go : ∀ v H', asked (all.map (·.dst)) F o = some true → StI P ids rs o (slot F) H v H' → VOi P false ids pm rs ro (all.map (·.dst)) r (some (put F o.dst v, H')) K → wpList P all.toArray Q (o :: r) a w := fun v H' hb hst hr => by
      have hwant := want_sound hf (asked_want all F o hb)
      unfold wpList
      rw [if_pos hwant]
      left
      refine stI_sound hall.1 hw hf hst _ _ fun C' u w' q1 q2 q3 q4 => ?_
      rw [← get_put] at q4
      refine seqI r _ _ hall.2 hr C' _ w' (by cases ho : o.dst <;> simp [Act.put, hd]) q2 q4 Q ?_
      intro C'' F'' H'' a'' w'' p1 p2 p3 p4 p5 p6
      exact hQ C'' F'' H'' a'' w'' (q1.trans p1) p2 p3 (q3.trans (by rw [← q1.B]; exact p4)) p5 p6
    have no : asked (all.map (·.dst)) F o = some false → VOi P false ids pm rs ro (all.map (·.dst)) r (some (put F o.dst (.tup []), H)) K → wpList P all.toArray Q (o :: r) a w := fun hb hr => by
      have hwant := want_sound hf (asked_want all F o hb)
      unfold wpList
      rw [if_neg (by rw [hwant]; simp)]
      have q4 := hf.put o.dst (dstOk_of hall.1) (VRel.undefV (C := C))
      rw [← get_put] at q4
      exact seqI r _ _ hall.2 hr C _ w (by cases ho : o.dst <;> simp [Act.put, hd]) hw q4 Q hQ
    cases hc : isCall o.op with
    | false =>
      simp only [hc] at h
      unfold stpI at h
      split at h
      · rw [VOi_none] at h; exact h.elim
      · rename_i b hb
        cases b with
        | false => exact no hb h
        | true =>
          simp only [cond_true, Bool.not_false, Bool.true_or] at h
          split at h
          · rename_i v H' hp
            exact go v H' hb (by unfold StI; rw [asked_call hc]; exact hp) h
          · rw [VOi_none] at h; exact h.elim
    | true =>
      simp only [hc] at h
      unfold VCi at h
      split at h
      · exact h.elim
      · rename_i b hb
        cases b with
        | false => exact no hb (h.2 rfl)
        | true =>
          have h := h.1 rfl
          unfold VCj at h
          split at h
          · rename_i fn args hp
            obtain ⟨v, H', h1, h2⟩ := h
            exact go v H' hb (by unfold StI; rw [hp]; exact h1) h2
          · exact h.elim
theorem PW.seqi {E : Env} {Q : Exit → Fr → Heap → Prop} {id : Nat} {ops : Array Oper} (ids : List Nat) (rs : List (Nat × Nat)) (hd : ops.toList.all (dstOk E.N) = true)
    (h : ∀ K : Fr → Heap → Prop, (∀ F' H', Q .normal F' H' → K F' H') → VOi P false ids [] rs [] (ops.toList.map (·.dst)) ops.toList (some (F, H)) K) : PW P E (.region id ops false) F H Q := fun hs C a w hdf hw hf => by
  refine wp_region_list ?_
  have := seqI (P := P) (all := ops.toList) ops.toList F H hd (h (fun F' H' => Q .normal F' H') fun _ _ h => h) C a w hdf hw hf (Post E C w Q) (fun C' F' H' a' w' p1 p2 p3 p4 p5 p6 => ⟨C', F', H', p1.toN _, p2, p3, p4, p5, p6⟩)
  simpa using this

end Go.Proofs.Ytnjnikafhbholaa.Pm

namespace Go.Proofs.Ytnjnikafhbholaa.Pm
set_option linter.all false
set_option linter.unusedVariables false
set_option linter.unusedSimpArgs false
open Go.RowKit

attribute [go_sem] VOi_nil VOi_step VRi VCi stpI chkI popI resI grows pnew kindI fstO fstP okO inO isMsl posOf posO opPos atP fpOf dis Call.operands List.filterMap_cons_some List.filterMap_nil List.filterMap_cons Array.toList_append

end Go.Proofs.Ytnjnikafhbholaa.Pm

namespace Go.Proofs.Ytnjnikafhbholaa.Sc
set_option linter.all false
set_option linter.unusedVariables false
set_option linter.unusedSimpArgs false
open Pm Ty Go.RowKit

theorem w32s (n : Int) (h : 0 ≤ n ∧ n ≤ 1000) : IntKind.i32.wrap n = n := by
  simp [IntKind.wrap, IntKind.signed, IntKind.bits]
  omega
/-- A letter and a digit. -/
def nm (k : List UInt8) (n : Int) : List UInt8 := k ++ [UInt8.ofNat (48 + n).toNat]
theorem name_ok (k : List UInt8) (n : Int) (H : Heap) (hk : k.length ≤ 100) (hn : 0 ≤ n ∧ n ≤ 20) : CallOk Try.prog 124 [.str k, .int .i64 n] H (.str (nm k n)) H := by
  refine CallOk.body (F0 := [(0, .str k), (1, .int .i64 n)]) Try.func124 rfl Try.ntmps124 Try.results124 rfl (by kernel_rfl) rfl ?_
  (repeat refine PW.seq ?_); refine PW.rg rfl fun K hK => ?_; simp (maxSteps := 3000000) (disch := omega) only [go_sem, ↓reduceIte, reduceCtorEq, pappend, plen]; refine hK _ _ ?_; clear hK K
  (repeat refine PW.seq ?_); refine PW.rg rfl fun K hK => ?_; simp (maxSteps := 3000000) (disch := omega) only [go_sem, ↓reduceIte, reduceCtorEq, pappend, plen, w32s]; refine hK _ _ ?_; clear hK K
  refine PW.ret ⟨.str (k ++ [UInt8.ofNat (48 + n).toNat]), by simp (maxSteps := 3000000) (disch := omega) only [go_sem, ↓reduceIte, reduceCtorEq, pappend, plen, presults, presult, List.mapM_cons, List.mapM_nil, Option.pure_def, Option.bind_eq_bind, Option.bind_some, Array.toList], ?_⟩
  exact Fin.now

/-- The heap with the tape at some place. -/
structure TpH (L : List Int) (f : Bool) (i : Nat) (H : Heap) (G : Nat → Heap) : Prop where
  eq : ∀ a, G a = H.set i (tb L f a)
  len : ∀ a, (G a).length = H.length
  get : ∀ a K, (G a ++ K)[i]? = some (tb L f a)
  set : ∀ a b K, (G a ++ K).set i (tb L f b) = G b ++ K
  p0 : ∀ a b K, (G a ++ b :: K)[H.length]? = some b
  p1 : ∀ a b c K, (G a ++ b :: c :: K)[H.length + 1]? = some c
  p2 : ∀ a b c d K, (G a ++ b :: c :: d :: K)[H.length + 2]? = some d
  p3 : ∀ a b c d e K, (G a ++ b :: c :: d :: e :: K)[H.length + 3]? = some e
  s0 : ∀ a b x K, (G a ++ b :: K).set H.length x = G a ++ x :: K
  s1 : ∀ a b c x K, (G a ++ b :: c :: K).set (H.length + 1) x = G a ++ b :: x :: K
  s2 : ∀ a b c d x K, (G a ++ b :: c :: d :: K).set (H.length + 2) x = G a ++ b :: c :: x :: K
  s3 : ∀ a b c d e x K, (G a ++ b :: c :: d :: e :: K).set (H.length + 3) x = G a ++ b :: c :: d :: x :: K
theorem tpH {L : List Int} {f : Bool} {i : Nat} {H : Heap} {a : Nat} (hi : H[i]? = some (tb L f a)) : ∃ G, TpH L f i H G ∧ G a = H := by
  have hil : i < H.length := (List.getElem?_eq_some_iff.1 hi).1
  refine ⟨fun a => H.set i (tb L f a), ⟨fun _ => rfl, fun a => List.length_set, fun a K => ?_, fun a b K => ?_, fun a b K => ?_, fun a b c K => ?_, fun a b c d K => ?_, fun a b c d e K => ?_, fun a b x K => ?_, fun a b c x K => ?_, fun a b c d x K => ?_, fun a b c d e x K => ?_⟩, ?_⟩
  · rw [List.getElem?_append_left (by rw [List.length_set]; exact hil), List.getElem?_set_self hil]
  · rw [List.set_append_left _ _ (by rw [List.length_set]; exact hil), List.set_set]
  · exact gp _ _ _ _ List.length_set
  · have := hp1 (H.set i (tb L f a)) K b c; rwa [List.length_set] at this
  · have := hp2 (H.set i (tb L f a)) K b c d; rwa [List.length_set] at this
  · have := hp3 (H.set i (tb L f a)) K b c d e; rwa [List.length_set] at this
  · exact gs _ _ _ _ _ List.length_set
  · have := hs1 (H.set i (tb L f a)) K b c x; rwa [List.length_set] at this
  · have := hs2 (H.set i (tb L f a)) K b c d x; rwa [List.length_set] at this
  · have := hs3 (H.set i (tb L f a)) K b c d e x; rwa [List.length_set] at this
  · apply List.ext_getElem?
    intro j
    rw [List.getElem?_set]
    split
    · rename_i e; subst e; first | rw [hi] | rw [if_pos hil, hi]
    · rfl
theorem tb_sc {L : List Int} {f : Bool} {a : Nat} (n : Nat) : ∀ x ∈ (tb L f a).cells, Scoped n x := fun x hx => by
  simp only [tb, List.mem_cons, List.not_mem_nil, or_false] at hx
  rcases hx with rfl | rfl
  · exact sl_scoped (is_scoped _ _)
  · exact .int _ _
theorem TpH.fin {L : List Int} {f : Bool} {i : Nat} {H : Heap} {G : Nat → Heap} (h : TpH L f i H G) {a : Nat} {K : Heap} {v v' : PV} (hv : Fz H.length (G a ++ K) v' v) : Fin H v (H.set i (tb L f a)) v' (G a ++ K) := by
  rw [h.eq] at hv ⊢
  exact Fin.cut rfl (by rw [List.length_set]) (fun hs => HSc.set hs (tb_sc _)) (by rw [List.length_set]; exact hv)

/-- What is chosen: the kind, and how far the tape has been read. -/
def exK (L : List Int) (d a : Nat) : Int × Nat := if d < 1 ∧ tn L a 8 > 3 then (1 + tn L (a + 1) 3, a + 2) else (tn L a 8, a + 1)
def exE : List PV := [.int .i64 0, .str [], .int .i64 0, .int .i64 0, .int .i64 0, .int .i64 0, .str [], .slice [] 0 true]
def exS (m : List UInt8) (n : Int) : List PV := [.int .i64 1, .str m, .int .i64 n, .int .i64 0, .int .i64 0, .int .i64 0, .str [], .slice [] 0 true]
def den3 (k : Int) : Int := if k = 0 then 4 else if k = 1 then 5 else 7
def txt2 (k : Int) : List UInt8 := if k = 0 then [65] else [69, 78, 68, 32, 50]
def a3F (L : List Int) (a : Nat) : Nat := if tn L a 8 = 5 then a + 4 else a + 3
def secF (L : List Int) (g : Nat → List PV × Nat) (b : List PV × Nat) : List PV × Nat := if tn L b.2 4 > 0 then g (b.2 + 1) else (b.1, b.2 + 1)
/-- An expression of the tape. -/
def exP (L : List Int) : Nat → Nat → List PV × Nat
  | 0, a => if (exK L 0 a).1 = 0 then (exE, (exK L 0 a).2) else (exS (nm [109] (tn L (exK L 0 a).2 3)) (tn L ((exK L 0 a).2 + 1) 8), (exK L 0 a).2 + 2)
  | d + 1, a =>
    if tn L a 8 = 0 then (exE, a + 1)
    else if tn L a 8 = 4 ∨ tn L a 8 = 5 then
      let p := if tn L a 8 = 5 then tn L (a + 3) 4 else 0
      let num := if 1 + tn L (a + 1) 3 = 2 then 3 else 1 + tn L (a + 1) 3
      let b := exP L d (a3F L a)
      let c := secF L (exP L d) b
      ([.int .i64 (tn L a 8 - 2), .str [], .int .i64 0, .int .i64 num, .int .i64 (den3 (tn L (a + 2) 3)), .int .i64 p, .str [], .slice (b.1 ++ c.1) 2 false], c.2)
    else if tn L a 8 = 6 then
      let b := exP L d (a + 2)
      let c := exP L d b.2
      ([.int .i64 4, .str [], .int .i64 0, .int .i64 0, .int .i64 0, .int .i64 (tn L (a + 1) 256), .str [], .slice (b.1 ++ c.1) 2 true], c.2)
    else if tn L a 8 = 7 then
      let b := exP L d (a + 2)
      ([.int .i64 5, .str [], .int .i64 0, .int .i64 0, .int .i64 0, .int .i64 0, .str (txt2 (tn L (a + 1) 2)), .slice b.1 1 true], b.2)
    else (exS (nm [109] (tn L (a + 1) 3)) (tn L (a + 2) 8), a + 3)
/-- What it looks like: black, a source, or something else. -/
def exOk (c : List PV) : Prop := ∃ op m fr x3 x4 x5 x6 xs n g, c = [.int .i64 op, .str m, .int .i64 fr, .int .i64 x3, .int .i64 x4, .int .i64 x5, .str x6, .slice xs n g] ∧ (∀ k, Scoped k (.slice xs n g)) ∧ (op = 1 → x3 = 0 ∧ x4 = 0 ∧ x5 = 0 ∧ x6 = [] ∧ xs = [] ∧ n = 0 ∧ g = true ∧ 0 ≤ fr ∧ fr < 100)
theorem exOk.len {c : List PV} (h : exOk c) : c.length = 8 := by obtain ⟨op, m, fr, x3, x4, x5, x6, xs, n, g, rfl, _⟩ := h; rfl
theorem exOk.sc {c : List PV} (h : exOk c) (n : Nat) : ∀ x ∈ c, Scoped n x := by
  obtain ⟨op, m, fr, x3, x4, x5, x6, xs, k, g, rfl, hs, _⟩ := h
  intro x hx
  simp only [List.mem_cons, List.not_mem_nil, or_false] at hx
  rcases hx with rfl | rfl | rfl | rfl | rfl | rfl | rfl | rfl
  · exact .int _ _
  · exact .str _
  · exact .int _ _
  · exact .int _ _
  · exact .int _ _
  · exact .int _ _
  · exact .str _
  · exact hs n
theorem exOk.cells {c : List PV} (h : exOk c) : c.all PV.cell = true := by
  obtain ⟨op, m, fr, x3, x4, x5, x6, xs, n, g, rfl, _⟩ := h
  rfl
theorem exOk.E : exOk exE := ⟨_, _, _, _, _, _, _, _, _, _, rfl, fun n => sl_scoped (by simp), fun h => by cases h⟩
theorem exOk.S (m : List UInt8) (n : Int) (h : 0 ≤ n ∧ n < 100) : exOk (exS m n) := ⟨_, _, _, _, _, _, _, _, _, _, rfl, fun n => sl_scoped (by simp), fun _ => ⟨rfl, rfl, rfl, rfl, rfl, rfl, rfl, h.1, h.2⟩⟩
theorem exP_ok (L : List Int) : ∀ d a, exOk (exP L d a).1 ∧ (exP L d a).2 ≤ a + 4 ^ (d + 1) ∧ a ≤ (exP L d a).2
  | 0, a => by
    have h1 := tn_range L (exK L 0 a).2 3 (by omega)
    have h2 := tn_range L ((exK L 0 a).2 + 1) 8 (by omega)
    have hK : (exK L 0 a).2 ≤ a + 2 ∧ a ≤ (exK L 0 a).2 := by unfold exK; split <;> simp
    unfold exP
    split
    · exact ⟨.E, by simp; omega, by simp; omega⟩
    · exact ⟨.S _ _ (by omega), by simp; omega, by simp; omega⟩
  | d + 1, a => by
    have h1 := tn_range L (a + 2) 8 (by omega)
    have hpos : 4 ^ 1 ≤ 4 ^ (d + 1) := Nat.pow_le_pow_right (by omega) (by omega)
    have hpw : 4 ^ (d + 1 + 1) = 4 * 4 ^ (d + 1) := by rw [Nat.pow_succ]; omega
    have key : ∀ b c : List PV, exOk b → exOk c → ∀ f n, Scoped n (.slice (b ++ c) 2 f) := fun b c hb hc f n => sl_scoped fun x hx => by
      rcases List.mem_append.1 hx with h | h
      · exact hb.sc n x h
      · exact hc.sc n x h
    unfold exP
    split
    · exact ⟨.E, by simp; omega, by simp⟩
    split
    · rename_i hk
      obtain ⟨b1, b2, b3⟩ := exP_ok L d (a3F L a)
      have ha3 : a3F L a ≤ a + 4 ∧ a + 3 ≤ a3F L a := by unfold a3F; split <;> omega
      obtain ⟨c1, c2, c3⟩ : exOk (secF L (exP L d) (exP L d (a3F L a))).1 ∧ (secF L (exP L d) (exP L d (a3F L a))).2 ≤ (exP L d (a3F L a)).2 + 1 + 4 ^ (d + 1) ∧ (exP L d (a3F L a)).2 + 1 ≤ (secF L (exP L d) (exP L d (a3F L a))).2 := by
        unfold secF
        split
        · exact exP_ok L d _
        · exact ⟨b1, by simp, by simp⟩
      refine ⟨⟨_, _, _, _, _, _, _, _, _, _, rfl, key _ _ b1 c1 false, fun h => ?_⟩, ?_, ?_⟩
      · omega
      · dsimp only; omega
      · dsimp only; omega
    split
    · obtain ⟨b1, b2, b3⟩ := exP_ok L d (a + 2)
      obtain ⟨c1, c2, c3⟩ := exP_ok L d (exP L d (a + 2)).2
      exact ⟨⟨_, _, _, _, _, _, _, _, _, _, rfl, key _ _ b1 c1 true, fun h => by cases h⟩, by dsimp only; omega, by dsimp only; omega⟩
    split
    · obtain ⟨b1, b2, b3⟩ := exP_ok L d (a + 2)
      exact ⟨⟨_, _, _, _, _, _, _, _, _, _, rfl, fun n => sl_scoped (b1.sc n), fun h => by cases h⟩, by dsimp only; omega, by dsimp only; omega⟩
    · exact ⟨.S _ _ (by omega), by dsimp only; omega, by dsimp only; omega⟩

end Go.Proofs.Ytnjnikafhbholaa.Sc

namespace Go.Proofs.Ytnjnikafhbholaa.Sc
set_option linter.all false
set_option linter.unusedVariables false
set_option linter.unusedSimpArgs false
open Pm Ty Go.RowKit

/-- The contract of Expr at a depth. -/
def ExprC (L : List Int) (f : Bool) (d : Nat) : Prop := ∀ (a i : Nat) (H : Heap), H[i]? = some (tb L f a) → a + 4 ^ (d + 1) ≤ 1000000 → CallOk Try.prog 85 [.ptr i 0 0, .int .i64 (d : Int)] H (.agg (exP L d a).1) (H.set i (tb L f (exP L d a).2))

theorem fzE (n : Nat) (H : Heap) : Fz n H (.agg exE) (.agg exE) := .id (ag_scoped (exOk.E.sc n))

set_option maxHeartbeats 1000000 in
theorem expr0 (L : List Int) (f : Bool) : ExprC L f 0 := by
  intro a i H hi ha
  obtain ⟨G, hG, hGa⟩ := tpH hi
  have hk := tn_range L a 8 (by omega)
  have hk1 := tn_range L (a + 1) 3 (by omega)
  have hK : (exK L 0 a).2 ≤ a + 2 := by unfold exK; split <;> simp
  have hK0 : 0 ≤ (exK L 0 a).1 ∧ (exK L 0 a).1 ≤ 3 := by
    unfold exK
    split
    · dsimp only; omega
    · rename_i h; dsimp only; omega
  generalize hexp : exP L 0 a = r
  unfold exP at hexp
  refine CallOk.body (F0 := [(0, .ptr i 0 0), (1, .int .i64 ((0 : Nat) : Int))]) Try.func85 rfl Try.ntmps85 Try.results85 rfl (by kernel_rfl) rfl ?_
  refine PW.eq rfl hGa.symm ?_
  (repeat refine PW.seq ?_); refine PW.rg rfl fun K hK => ?_; simp (maxSteps := 3000000) (disch := omega) only [go_sem, ↓reduceIte, reduceCtorEq, pappend, plen, hG.len]; refine hK _ _ ?_; clear hK K
  (repeat refine PW.seq ?_); refine PW.rg rfl fun K hK => ?_; simp (maxSteps := 3000000) (disch := omega) only [go_sem, ↓reduceIte, reduceCtorEq, pappend, plen, hG.set]; refine VCx.call (next_ok L f a 8 i _ (hG.get a _) (by omega) (by omega)) rfl ?_; simp (maxSteps := 3000000) (disch := omega) only [go_sem, ↓reduceIte, reduceCtorEq, pappend, plen, hG.set]; refine hK _ _ ?_; clear hK K
  (repeat refine PW.seq ?_); refine PW.rg rfl fun K hK => ?_; simp (maxSteps := 3000000) (disch := omega) only [go_sem, ↓reduceIte, reduceCtorEq, pappend, plen]; refine hK _ _ ?_; clear hK K
  refine PW.meet [0, 1, 4, 5] [(0, .ptr i 0 0), (1, .int .i64 ((0 : Nat) : Int)), (4, .ptr H.length 0 0), (5, .int .i64 (exK L 0 a).1)] (G (exK L 0 a).2 ++ [⟨81, 0, exE⟩]) ?_ ?_
  · (repeat refine PW.seq ?_); refine PW.cond (t := _) rfl (fun h => ?_) (fun h => ?_)
    · have h3 : tn L a 8 > 3 := by simpa using h
      have e : exK L 0 a = (1 + tn L (a + 1) 3, a + 2) := if_pos ⟨by omega, h3⟩
      rw [e]
      (repeat refine PW.seq ?_); refine PW.rg rfl fun K hK => ?_; simp (maxSteps := 3000000) (disch := omega) only [go_sem, ↓reduceIte, reduceCtorEq, pappend, plen, hG.set]; refine VCx.call (next_ok L f (a + 1) 3 i _ (hG.get _ _) (by omega) (by omega)) rfl ?_; simp (maxSteps := 3000000) (disch := omega) only [go_sem, ↓reduceIte, reduceCtorEq, pappend, plen, hG.set]; refine hK _ _ ?_; clear hK K
      exact ⟨rfl, rfl⟩
    · have h3 : ¬ tn L a 8 > 3 := by simpa using h
      have e : exK L 0 a = (tn L a 8, a + 1) := if_neg (fun hh => h3 hh.2)
      rw [e]
      exact PW.skip ⟨rfl, rfl⟩
  generalize exK L 0 a = p at *
  obtain ⟨k, a1⟩ := p
  dsimp only at *
  have hm1 := tn_range L a1 3 (by omega)
  have hm2 := tn_range L (a1 + 1) 8 (by omega)
  simp only [exE]
  (repeat refine PW.seq ?_); refine PW.rg rfl fun K hK => ?_; simp (maxSteps := 3000000) (disch := omega) only [go_sem, ↓reduceIte, reduceCtorEq, pappend, plen]; refine hK _ _ ?_; clear hK K
  (repeat refine PW.seq ?_); refine PW.block ?_
  (repeat refine PW.seq ?_); refine PW.rg rfl fun K hK => ?_; simp (maxSteps := 3000000) (disch := omega) only [go_sem, ↓reduceIte, reduceCtorEq, pappend, plen]; refine hK _ _ ?_; clear hK K
  (repeat refine PW.seq ?_); refine PW.cond (t := _) rfl (fun h => ?_) (fun h => ?_)
  · have h0 : k = 0 := by simpa using h
    rw [if_pos h0] at hexp
    subst hexp
    (repeat refine PW.seq ?_); refine PW.rg rfl fun K hK => ?_; simp (maxSteps := 3000000) (disch := omega) only [go_sem, ↓reduceIte, reduceCtorEq, pappend, plen, hG.p0, hG.s0]; refine hK _ _ ?_; clear hK K
    refine PW.ret ⟨.agg [.int .i64 0, .str [], .int .i64 0, .int .i64 0, .int .i64 0, .int .i64 0, .str [], .slice [] 0 true], by simp (maxSteps := 3000000) (disch := omega) only [go_sem, ↓reduceIte, reduceCtorEq, pappend, plen, presults, presult, List.mapM_cons, List.mapM_nil, Option.pure_def, Option.bind_eq_bind, Option.bind_some, Array.toList, hG.p0], ?_⟩
    exact hG.fin (fzE _ _)
  have h0 : k ≠ 0 := by simpa using h
  rw [if_neg h0] at hexp
  subst hexp
  (repeat refine PW.seq ?_); refine PW.rg rfl fun K hK => ?_; simp (maxSteps := 3000000) (disch := omega) only [go_sem, ↓reduceIte, reduceCtorEq, pappend, plen]; refine hK _ _ ?_; clear hK K
  (repeat refine PW.seq ?_); refine PW.cond (t := _) rfl (fun h => ?_) (fun h => ?_)
  · exfalso; have : k = 4 := by simpa using h
    omega
  (repeat refine PW.seq ?_); refine PW.rg rfl fun K hK => ?_; simp (maxSteps := 3000000) (disch := omega) only [go_sem, ↓reduceIte, reduceCtorEq, pappend, plen]; refine hK _ _ ?_; clear hK K
  (repeat refine PW.seq ?_); refine PW.cond (t := _) rfl (fun h => ?_) (fun h => ?_)
  · exfalso; have : k = 5 := by simpa using h
    omega
  (repeat refine PW.seq ?_); refine PW.rg rfl fun K hK => ?_; simp (maxSteps := 3000000) (disch := omega) only [go_sem, ↓reduceIte, reduceCtorEq, pappend, plen]; refine hK _ _ ?_; clear hK K
  (repeat refine PW.seq ?_); refine PW.cond (t := _) rfl (fun h => ?_) (fun h => ?_)
  · exfalso; have : k = 6 := by simpa using h
    omega
  (repeat refine PW.seq ?_); refine PW.rg rfl fun K hK => ?_; simp (maxSteps := 3000000) (disch := omega) only [go_sem, ↓reduceIte, reduceCtorEq, pappend, plen]; refine hK _ _ ?_; clear hK K
  (repeat refine PW.seq ?_); refine PW.cond (t := _) rfl (fun h => ?_) (fun h => ?_)
  · exfalso; have : k = 7 := by simpa using h
    omega
  refine PW.skip ?_
  (repeat refine PW.seq ?_); refine PW.rg rfl fun K hK => ?_; simp (maxSteps := 3000000) (disch := omega) only [go_sem, ↓reduceIte, reduceCtorEq, pappend, plen]
  refine VCx.call (next_ok L f a1 3 i _ (hG.get _ _) (by omega) (by omega)) rfl ?_; simp (maxSteps := 3000000) (disch := omega) only [go_sem, ↓reduceIte, reduceCtorEq, pappend, plen, hG.set]
  refine VCx.call (name_ok [109] _ _ (by simp) (by omega)) rfl ?_; simp (maxSteps := 3000000) (disch := omega) only [go_sem, ↓reduceIte, reduceCtorEq, pappend, plen]
  refine VCx.call (next_ok L f (a1 + 1) 8 i _ (hG.get _ _) (by omega) (by omega)) rfl ?_; simp (maxSteps := 3000000) (disch := omega) only [go_sem, ↓reduceIte, reduceCtorEq, pappend, plen, hG.set, hG.p0, hG.s0]
  refine hK _ _ ?_; clear hK K
  refine PW.ret ⟨.agg [.int .i64 1, .str (nm [109] (tn L a1 3)), .int .i64 (tn L (a1 + 1) 8), .int .i64 0, .int .i64 0, .int .i64 0, .str [], .slice [] 0 true], by simp (maxSteps := 3000000) (disch := omega) only [go_sem, ↓reduceIte, reduceCtorEq, pappend, plen, presults, presult, List.mapM_cons, List.mapM_nil, Option.pure_def, Option.bind_eq_bind, Option.bind_some, Array.toList, hG.p0], ?_⟩
  exact hG.fin (.id (ag_scoped ((exOk.S _ _ (by omega)).sc _)))

set_option maxHeartbeats 2000000 in
theorem exprS (L : List Int) (f : Bool) (d : Nat) (hd : d ≤ 3) (rec : ExprC L f d) : ExprC L f (d + 1) := by
  intro a i H hi ha
  obtain ⟨G, hG, hGa⟩ := tpH hi
  have hil : i < H.length := (List.getElem?_eq_some_iff.1 hi).1
  have hk := tn_range L a 8 (by omega)
  have hk1 := tn_range L (a + 1) 3 (by omega)
  have hk2 := tn_range L (a + 2) 3 (by omega)
  have hk3 := tn_range L (a + 2) 8 (by omega)
  have hk4 := tn_range L (a + 1) 2 (by omega)
  have hk5 := tn_range L (a + 3) 4 (by omega)
  have hk6 := tn_range L (a + 1) 256 (by omega)
  have e1 : ((d + 1 : Nat) : Int) - 1 = (d : Int) := by omega
  have hpos : 4 ^ 1 ≤ 4 ^ (d + 1) := Nat.pow_le_pow_right (by omega) (by omega)
  have hpw : 4 ^ (d + 1 + 1) = 4 * 4 ^ (d + 1) := by rw [Nat.pow_succ]; omega
  have hP := exP_ok L d
  unfold ExprC at rec
  have rc := fun (b : Nat) (K : Heap) (hb : b + 4 ^ (d + 1) ≤ 1000000) => rec b i (G b ++ K) (hG.get b K) hb
  generalize hexp : exP L (d + 1) a = r
  unfold exP at hexp
  simp only at hexp
  generalize exP L d = g at *
  refine CallOk.body (F0 := [(0, .ptr i 0 0), (1, .int .i64 ((d + 1 : Nat) : Int))]) Try.func85 rfl Try.ntmps85 Try.results85 rfl (by kernel_rfl) rfl ?_
  refine PW.eq rfl hGa.symm ?_
  (repeat refine PW.seq ?_); refine PW.rg rfl fun K hK => ?_; simp (maxSteps := 3000000) (disch := omega) only [go_sem, ↓reduceIte, reduceCtorEq, pappend, plen, hG.len]; refine hK _ _ ?_; clear hK K
  (repeat refine PW.seq ?_); refine PW.rg rfl fun K hK => ?_; simp (maxSteps := 3000000) (disch := omega) only [go_sem, ↓reduceIte, reduceCtorEq, pappend, plen, hG.set]; refine VCx.call (next_ok L f a 8 i _ (hG.get a _) (by omega) (by omega)) rfl ?_; simp (maxSteps := 3000000) (disch := omega) only [go_sem, ↓reduceIte, reduceCtorEq, pappend, plen, hG.set]; refine hK _ _ ?_; clear hK K
  (repeat refine PW.seq ?_); refine PW.rg rfl fun K hK => ?_; simp (maxSteps := 3000000) (disch := omega) only [go_sem, ↓reduceIte, reduceCtorEq, pappend, plen]; refine hK _ _ ?_; clear hK K
  (repeat refine PW.seq ?_); refine PW.cond (t := _) rfl (fun h => ?_) (fun h => ?_)
  · cases h
  refine PW.skip ?_
  (repeat refine PW.seq ?_); refine PW.rg rfl fun K hK => ?_; simp (maxSteps := 3000000) (disch := omega) only [go_sem, ↓reduceIte, reduceCtorEq, pappend, plen]; refine hK _ _ ?_; clear hK K
  (repeat refine PW.seq ?_); refine PW.block ?_
  (repeat refine PW.seq ?_); refine PW.rg rfl fun K hK => ?_; simp (maxSteps := 3000000) (disch := omega) only [go_sem, ↓reduceIte, reduceCtorEq, pappend, plen]; refine hK _ _ ?_; clear hK K
  (repeat refine PW.seq ?_); refine PW.cond (t := _) rfl (fun h => ?_) (fun h => ?_)
  · have h0 : tn L a 8 = 0 := by simpa using h
    rw [if_pos h0] at hexp
    subst hexp
    (repeat refine PW.seq ?_); refine PW.rg rfl fun K hK => ?_; simp (maxSteps := 3000000) (disch := omega) only [go_sem, ↓reduceIte, reduceCtorEq, pappend, plen, hG.p0, hG.s0]; refine hK _ _ ?_; clear hK K
    refine PW.ret ⟨.agg [.int .i64 0, .str [], .int .i64 0, .int .i64 0, .int .i64 0, .int .i64 0, .str [], .slice [] 0 true], by simp (maxSteps := 3000000) (disch := omega) only [go_sem, ↓reduceIte, reduceCtorEq, pappend, plen, presults, presult, List.mapM_cons, List.mapM_nil, Option.pure_def, Option.bind_eq_bind, Option.bind_some, Array.toList, hG.p0], ?_⟩
    exact hG.fin (fzE _ _)
  have h0 : tn L a 8 ≠ 0 := by simpa using h
  rw [if_neg h0] at hexp
  by_cases h45 : tn L a 8 = 4 ∨ tn L a 8 = 5
  · rw [if_pos h45] at hexp
    have hden : ([.int .i64 4, .int .i64 5, .int .i64 7] : List PV)[(tn L (a + 2) 3).toNat]? = some (.int .i64 (den3 (tn L (a + 2) 3))) := by
      have h3 : tn L (a + 2) 3 = 0 ∨ tn L (a + 2) 3 = 1 ∨ tn L (a + 2) 3 = 2 := by omega
      rcases h3 with h3 | h3 | h3 <;> (rw [h3]; rfl)
    (repeat refine PW.seq ?_); refine PW.rg rfl fun K hK => ?_; simp (maxSteps := 3000000) (disch := omega) only [go_sem, ↓reduceIte, reduceCtorEq, pappend, plen]; refine hK _ _ ?_; clear hK K
    refine PW.meet [0, 1, 4, 5, 23] [(0, .ptr i 0 0), (1, .int .i64 ((d + 1 : Nat) : Int)), (4, .ptr H.length 0 0), (5, .int .i64 (tn L a 8)), (23, .bool true)] (G (a + 1) ++ [⟨81, 0, [.int .i64 0, .str [], .int .i64 0, .int .i64 0, .int .i64 0, .int .i64 0, .str [], .slice [] 0 true]⟩]) ?_ ?_
    · (repeat refine PW.seq ?_); refine PW.cond (t := _) rfl (fun h => ?_) (fun h => ?_)
      · have h4 : tn L a 8 = 4 := by simpa using h
        refine PW.skip ⟨?_, rfl⟩
        simp (maxSteps := 3000000) (disch := omega) only [go_sem, ↓reduceIte, reduceCtorEq, pappend, plen]
      · have h4 : tn L a 8 ≠ 4 := by simpa using h
        have h5 : tn L a 8 = 5 := by omega
        (repeat refine PW.seq ?_); refine PW.rg rfl fun K hK => ?_; simp (maxSteps := 3000000) (disch := omega) only [go_sem, ↓reduceIte, reduceCtorEq, pappend, plen]; refine hK _ _ ?_; clear hK K
        refine ⟨?_, rfl⟩
        simp (maxSteps := 3000000) (disch := omega) only [go_sem, ↓reduceIte, reduceCtorEq, pappend, plen]
    (repeat refine PW.seq ?_); refine PW.cond (t := _) rfl (fun h => ?_) (fun h => ?_)
    rotate_left
    · cases h
    clear h
    (repeat refine PW.seq ?_); refine PW.rg rfl fun K hK => ?_; simp (maxSteps := 3000000) (disch := omega) only [go_sem, ↓reduceIte, reduceCtorEq, pappend, plen]
    refine VCx.call (next_ok L f (a + 1) 3 i _ (hG.get _ _) (by omega) (by omega)) rfl ?_; simp (maxSteps := 3000000) (disch := omega) only [go_sem, ↓reduceIte, reduceCtorEq, pappend, plen, hG.set]
    refine VCx.call (next_ok L f (a + 2) 3 i _ (hG.get _ _) (by omega) (by omega)) rfl ?_; simp (maxSteps := 3000000) (disch := omega) only [go_sem, ↓reduceIte, reduceCtorEq, pappend, plen, hG.set, hG.len, hG.p0, hG.p1, hG.s0, hG.s1, hden]
    refine hK _ _ ?_; clear hK K
    (repeat refine PW.seq ?_); refine PW.rg rfl fun K hK => ?_; simp (maxSteps := 3000000) (disch := omega) only [go_sem, ↓reduceIte, reduceCtorEq, pappend, plen]; refine hK _ _ ?_; clear hK K
    generalize hp : (if tn L a 8 = 5 then tn L (a + 3) 4 else 0) = p at hexp
    generalize hnum : (if 1 + tn L (a + 1) 3 = 2 then 3 else 1 + tn L (a + 1) 3) = num at hexp
    generalize hdd : den3 (tn L (a + 2) 3) = dd at *
    have ha3 : a3F L a ≤ a + 4 := by unfold a3F; split <;> omega
    refine PW.meet [0, 1, 4, 6] [(0, .ptr i 0 0), (1, .int .i64 ((d + 1 : Nat) : Int)), (4, .ptr H.length 0 0), (6, .ptr (H.length + 1) 0 0)] (G (a3F L a) ++ [⟨81, 0, [.int .i64 0, .str [], .int .i64 0, .int .i64 0, .int .i64 0, .int .i64 0, .str [], .slice [] 0 true]⟩, ⟨81, 0, [.int .i64 (tn L a 8 - 2), .str [], .int .i64 0, .int .i64 (1 + tn L (a + 1) 3), .int .i64 (dd), .int .i64 (p), .str [], .slice [] 0 true]⟩]) ?_ ?_
    · (repeat refine PW.seq ?_); refine PW.cond (t := _) rfl (fun h => ?_) (fun h => ?_)
      · have h5 : tn L a 8 = 5 := by simpa using h
        rw [if_pos h5] at hp
        subst hp
        rw [show a3F L a = a + 4 from if_pos h5, h5]
        (repeat refine PW.seq ?_); refine PW.rg rfl fun K hK => ?_; simp (maxSteps := 3000000) (disch := omega) only [go_sem, ↓reduceIte, reduceCtorEq, pappend, plen, hG.set, hG.p1, hG.s1]; refine VCx.call (next_ok L f (a + 3) 4 i _ (hG.get _ _) (by omega) (by omega)) rfl ?_; simp (maxSteps := 3000000) (disch := omega) only [go_sem, ↓reduceIte, reduceCtorEq, pappend, plen, hG.set, hG.p1, hG.s1]; refine hK _ _ ?_; clear hK K
        exact ⟨rfl, rfl⟩
      · have h5 : tn L a 8 ≠ 5 := by simpa using h
        have h4 : tn L a 8 = 4 := by omega
        rw [if_neg h5] at hp
        subst hp
        rw [show a3F L a = a + 3 from if_neg h5, h4]
        exact PW.skip ⟨rfl, rfl⟩
    (repeat refine PW.seq ?_); refine PW.rg rfl fun K hK => ?_; simp (maxSteps := 3000000) (disch := omega) only [go_sem, ↓reduceIte, reduceCtorEq, pappend, plen, hG.p1]; refine hK _ _ ?_; clear hK K
    refine PW.meet [0, 1, 4, 6] [(0, .ptr i 0 0), (1, .int .i64 ((d + 1 : Nat) : Int)), (4, .ptr H.length 0 0), (6, .ptr (H.length + 1) 0 0)] (G (a3F L a) ++ [⟨81, 0, [.int .i64 0, .str [], .int .i64 0, .int .i64 0, .int .i64 0, .int .i64 0, .str [], .slice [] 0 true]⟩, ⟨81, 0, [.int .i64 (tn L a 8 - 2), .str [], .int .i64 0, .int .i64 (num), .int .i64 (dd), .int .i64 (p), .str [], .slice [] 0 true]⟩]) ?_ ?_
    · (repeat refine PW.seq ?_); refine PW.cond (t := _) rfl (fun h => ?_) (fun h => ?_)
      · have h5 : 1 + tn L (a + 1) 3 = 2 := by simpa using h
        rw [if_pos h5] at hnum
        subst hnum
        (repeat refine PW.seq ?_); refine PW.rg rfl fun K hK => ?_; simp (maxSteps := 3000000) (disch := omega) only [go_sem, ↓reduceIte, reduceCtorEq, pappend, plen, hG.p1, hG.s1]; refine hK _ _ ?_; clear hK K
        exact ⟨rfl, rfl⟩
      · have h5 : 1 + tn L (a + 1) 3 ≠ 2 := by simpa using h
        rw [if_neg h5] at hnum
        subst hnum
        exact PW.skip ⟨rfl, rfl⟩
    have hb := hP (a3F L a)
    have hbc := (hb.1.sc H.length)
    have r1 := fun K => rc (a3F L a) K (by omega)
    have hsec : secF L g (g (a3F L a)) = if tn L (g (a3F L a)).2 4 > 0 then g ((g (a3F L a)).2 + 1) else ((g (a3F L a)).1, (g (a3F L a)).2 + 1) := rfl
    have r2 := fun K hK => rec ((g (a3F L a)).2 + 1) i K hK (by omega)
    have hc := hP ((g (a3F L a)).2 + 1)
    have hk7 := tn_range L (g (a3F L a)).2 4 (by omega)
    clear hP rc rec
    generalize secF L g (g (a3F L a)) = sec at *
    generalize g ((g (a3F L a)).2 + 1) = gc at *
    generalize g (a3F L a) = gb at *
    obtain ⟨b, a2⟩ := gb
    obtain ⟨c, a4⟩ := gc
    obtain ⟨c', a4'⟩ := sec
    dsimp only at *
    have hcc := (hc.1.sc H.length)
    obtain ⟨o1, m1, f1, y3, y4, y5, y6, y7, y8, y9, rfl, _⟩ := hb.1
    obtain ⟨o2, m2, f2, z3, z4, z5, z6, z7, z8, z9, rfl, _⟩ := hc.1
    (repeat refine PW.seq ?_); refine PW.rg rfl fun K hK => ?_; simp (maxSteps := 3000000) (disch := omega) only [go_sem, ↓reduceIte, reduceCtorEq, pappend, plen, e1, hG.set, hG.len, hG.p0, hG.p1, hG.p2, hG.s2]; refine VCx.call (r1 _) rfl ?_; simp (maxSteps := 3000000) (disch := omega) only [go_sem, ↓reduceIte, reduceCtorEq, pappend, plen, e1, hG.set, hG.len, hG.p0, hG.p1, hG.p2, hG.s2]; refine hK _ _ ?_; clear hK K
    (repeat refine PW.seq ?_)
    refine PW.view (Vs.place 81) ?_
    (repeat refine PW.seq ?_); refine PW.seqi [H.length + 3] [(51, 0)] rfl fun K hK => ?_
    simp (maxSteps := 3000000) (disch := omega) only [go_sem, ↓reduceIte, reduceCtorEq, pappend, plen, hG.len, hG.p1, hG.p2, hG.p3, hG.s1, hG.s3]
    refine hK _ _ ?_; clear hK K
    (repeat refine PW.seq ?_); refine PW.rg rfl fun K hK => ?_; simp (maxSteps := 3000000) (disch := omega) only [go_sem, ↓reduceIte, reduceCtorEq, pappend, plen, hG.set]; refine VCx.call (next_ok L f a2 4 i _ (hG.get _ _) (by omega) (by omega)) rfl ?_; simp (maxSteps := 3000000) (disch := omega) only [go_sem, ↓reduceIte, reduceCtorEq, pappend, plen, hG.set]; refine hK _ _ ?_; clear hK K
    subst hexp
    refine PW.meet [4, 6] [(4, .ptr H.length 0 0), (6, .ptr (H.length + 1) 0 0)] (G a4' ++ [⟨81, 0, [.int .i64 0, .str [], .int .i64 0, .int .i64 0, .int .i64 0, .int .i64 0, .str [], .slice [] 0 true]⟩, ⟨81, 0, [.int .i64 (tn L a 8 - 2), .str [], .int .i64 0, .int .i64 (num), .int .i64 (dd), .int .i64 (p), .str [], .msl (H.length + 3) 1 0 2 8 true]⟩, ⟨81, 0, [.int .i64 o1, .str m1, .int .i64 f1, .int .i64 y3, .int .i64 y4, .int .i64 y5, .str y6, .slice y7 y8 y9]⟩, ⟨81, 1, [.int .i64 o1, .str m1, .int .i64 f1, .int .i64 y3, .int .i64 y4, .int .i64 y5, .str y6, .slice y7 y8 y9] ++ c'⟩]) ?_ ?_
    · (repeat refine PW.seq ?_); refine PW.cond (t := _) rfl (fun h => ?_) (fun h => ?_)
      · have h5 : tn L a2 4 > 0 := by simpa using h
        rw [if_pos h5] at hsec
        cases hsec
        (repeat refine PW.seq ?_); refine PW.drawi [i, H.length + 3] [(58, [0]), (57, [1]), (62, [1])] [] [] mix (by kernel_rfl) (by simp <;> omega) fun K hK => ?_
        simp (maxSteps := 3000000) (disch := omega) only [go_sem, ↓reduceIte, reduceCtorEq, pappend, plen, hG.len, hG.p1, hG.p3, hG.get, hG.set, e1]
        refine VCj.wr1 (hG.get _ _) (fun _ hL _ => r2 _ hL) (by simp (maxSteps := 3000000) (disch := omega) only [go_sem, ↓reduceIte, reduceCtorEq, pappend, plen]) (.inl rfl) rfl ?_
        simp (maxSteps := 3000000) (disch := omega) only [go_sem, ↓reduceIte, reduceCtorEq, pappend, plen, hG.len, hG.get, hG.set, hG.p3, hG.s3]
        refine hK _ _ ?_; clear hK K
        exact ⟨rfl, rfl⟩
      · have h5 : ¬ tn L a2 4 > 0 := by simpa using h
        rw [if_neg h5] at hsec
        cases hsec
        exact PW.skip ⟨rfl, rfl⟩
    have hc8 : c'.length = 8 ∧ ∀ x ∈ c', Scoped H.length x := by
      split at hsec <;> cases hsec
      · exact ⟨rfl, hcc⟩
      · exact ⟨rfl, hbc⟩
    (repeat refine PW.seq ?_); refine PW.rg rfl fun K hK => ?_; simp (maxSteps := 3000000) (disch := omega) only [go_sem, ↓reduceIte, reduceCtorEq, pappend, plen, hG.p0, hG.p1, hG.s0]; refine hK _ _ ?_; clear hK K
    refine PW.ret ⟨.agg [.int .i64 (tn L a 8 - 2), .str [], .int .i64 0, .int .i64 (num), .int .i64 (dd), .int .i64 (p), .str [], .msl (H.length + 3) 1 0 2 8 true], by simp (maxSteps := 3000000) (disch := omega) only [go_sem, ↓reduceIte, reduceCtorEq, pappend, plen, presults, presult, List.mapM_cons, List.mapM_nil, Option.pure_def, Option.bind_eq_bind, Option.bind_some, Array.toList, hG.p0], ?_⟩
    refine hG.fin (Fz.aggC ⟨.id (.int _ _), .id (.str _), .id (.int _ _), .id (.int _ _), .id (.int _ _), .id (.int _ _), .id (.str _), Fz.mslC (e := 81) (xs := [.int .i64 o1, .str m1, .int .i64 f1, .int .i64 y3, .int .i64 y4, .int .i64 y5, .str y6, .slice y7 y8 y9] ++ c') (by omega) (hG.p3 _ _ _ _ _ _) (by simp [hc8.1]) (FzC.refl fun x hx => ?_), trivial⟩)
    rcases List.mem_append.1 hx with h | h
    · exact hbc x h
    · exact hc8.2 x h
  rw [if_neg h45] at hexp
  (repeat refine PW.seq ?_); refine PW.rg rfl fun K hK => ?_; simp (maxSteps := 3000000) (disch := omega) only [go_sem, ↓reduceIte, reduceCtorEq, pappend, plen]; refine hK _ _ ?_; clear hK K
  (repeat refine PW.seq ?_); refine PW.cond (t := _) rfl (fun h => ?_) (fun h => ?_)
  · exfalso; have : tn L a 8 = 4 := by simpa using h
    omega
  (repeat refine PW.seq ?_); refine PW.rg rfl fun K hK => ?_; simp (maxSteps := 3000000) (disch := omega) only [go_sem, ↓reduceIte, reduceCtorEq, pappend, plen]; refine hK _ _ ?_; clear hK K
  (repeat refine PW.seq ?_); refine PW.cond (t := _) rfl (fun h => ?_) (fun h => ?_)
  · exfalso; have : tn L a 8 = 5 := by simpa using h
    omega
  (repeat refine PW.seq ?_); refine PW.rg rfl fun K hK => ?_; simp (maxSteps := 3000000) (disch := omega) only [go_sem, ↓reduceIte, reduceCtorEq, pappend, plen]; refine hK _ _ ?_; clear hK K
  (repeat refine PW.seq ?_); refine PW.cond (t := _) rfl (fun h => ?_) (fun h => ?_)
  · have h6 : tn L a 8 = 6 := by simpa using h
    rw [if_pos h6] at hexp
    subst hexp
    have hb := hP (a + 2)
    have hc := hP (g (a + 2)).2
    have r1 := fun K => rc (a + 2) K (by omega)
    have r2 := fun K => rc (g (a + 2)).2 K (by omega)
    clear hP rc rec
    generalize g (g (a + 2)).2 = gc at *
    generalize g (a + 2) = gb at *
    obtain ⟨b, a2⟩ := gb
    obtain ⟨c, a4⟩ := gc
    dsimp only at *
    have hbc := (hb.1.sc H.length)
    have hcc := (hc.1.sc H.length)
    obtain ⟨o1, m1, f1, y3, y4, y5, y6, y7, y8, y9, rfl, _⟩ := hb.1
    obtain ⟨o2, m2, f2, z3, z4, z5, z6, z7, z8, z9, rfl, _⟩ := hc.1
    (repeat refine PW.seq ?_); refine PW.rg rfl fun K hK => ?_; simp (maxSteps := 3000000) (disch := omega) only [go_sem, ↓reduceIte, reduceCtorEq, pappend, plen]
    refine VCx.call (next_ok L f (a + 1) 256 i _ (hG.get _ _) (by omega) (by omega)) rfl ?_; simp (maxSteps := 3000000) (disch := omega) only [go_sem, ↓reduceIte, reduceCtorEq, pappend, plen, hG.set, e1]
    refine VCx.call (r1 _) rfl ?_; simp (maxSteps := 3000000) (disch := omega) only [go_sem, ↓reduceIte, reduceCtorEq, pappend, plen, hG.set, e1]
    refine VCx.call (r2 _) rfl ?_; simp (maxSteps := 3000000) (disch := omega) only [go_sem, ↓reduceIte, reduceCtorEq, pappend, plen, hG.set, hG.p0, hG.s0]
    refine hK _ _ ?_; clear hK K
    refine PW.ret ⟨.agg [.int .i64 4, .str [], .int .i64 0, .int .i64 0, .int .i64 0, .int .i64 (tn L (a + 1) 256), .str [], .slice ([.int .i64 o1, .str m1, .int .i64 f1, .int .i64 y3, .int .i64 y4, .int .i64 y5, .str y6, .slice y7 y8 y9, .int .i64 o2, .str m2, .int .i64 f2, .int .i64 z3, .int .i64 z4, .int .i64 z5, .str z6, .slice z7 z8 z9]) 2 true], by simp (maxSteps := 3000000) (disch := omega) only [go_sem, ↓reduceIte, reduceCtorEq, pappend, plen, presults, presult, List.mapM_cons, List.mapM_nil, Option.pure_def, Option.bind_eq_bind, Option.bind_some, Array.toList, hG.p0], ?_⟩
    refine hG.fin (.id' rfl (ag_scoped fun x hx => ?_))
    simp only [List.mem_cons, List.not_mem_nil, or_false] at hx
    rcases hx with rfl | rfl | rfl | rfl | rfl | rfl | rfl | rfl
    · exact .int _ _
    · exact .str _
    · exact .int _ _
    · exact .int _ _
    · exact .int _ _
    · exact .int _ _
    · exact .str _
    · exact sl_scoped fun x hx => by
        rcases List.mem_append.1 (show x ∈ [PV.int .i64 o1, .str m1, .int .i64 f1, .int .i64 y3, .int .i64 y4, .int .i64 y5, .str y6, .slice y7 y8 y9] ++ [.int .i64 o2, .str m2, .int .i64 f2, .int .i64 z3, .int .i64 z4, .int .i64 z5, .str z6, .slice z7 z8 z9] from hx) with h | h
        · exact hbc x h
        · exact hcc x h
  have h6 : tn L a 8 ≠ 6 := by simpa using h
  rw [if_neg h6] at hexp
  (repeat refine PW.seq ?_); refine PW.rg rfl fun K hK => ?_; simp (maxSteps := 3000000) (disch := omega) only [go_sem, ↓reduceIte, reduceCtorEq, pappend, plen]; refine hK _ _ ?_; clear hK K
  (repeat refine PW.seq ?_); refine PW.cond (t := _) rfl (fun h => ?_) (fun h => ?_)
  · have h7 : tn L a 8 = 7 := by simpa using h
    rw [if_pos h7] at hexp
    subst hexp
    have hb := hP (a + 2)
    have r1 := fun K hK => rec (a + 2) i K hK (by omega)
    clear hP rc rec
    generalize g (a + 2) = gb at *
    obtain ⟨b, a2⟩ := gb
    dsimp only at *
    have hbc := (hb.1.sc H.length)
    obtain ⟨o1, m1, f1, y3, y4, y5, y6, y7, y8, y9, rfl, _⟩ := hb.1
    have htx : ([.str [65], .str [69, 78, 68, 32, 50]] : List PV)[(tn L (a + 1) 2).toNat]? = some (.str (txt2 (tn L (a + 1) 2))) := by
      have h3 : tn L (a + 1) 2 = 0 ∨ tn L (a + 1) 2 = 1 := by omega
      rcases h3 with h3 | h3 <;> (rw [h3]; rfl)
    (repeat refine PW.seq ?_); refine PW.drawi [i, H.length] [(81, [0]), (85, [0]), (4, [1])] [] [] mix (by kernel_rfl) (by simp <;> omega) fun K hK => ?_
    simp (maxSteps := 3000000) (disch := omega) only [go_sem, ↓reduceIte, reduceCtorEq, pappend, plen, hG.len, hG.get, hG.set, hG.p0]
    refine VCj.wr1 (hG.get _ _) (fun _ hL _ => next_ok L f (a + 1) 2 i _ hL (by omega) (by omega)) (by simp (maxSteps := 3000000) (disch := omega) only [go_sem, ↓reduceIte, reduceCtorEq, pappend, plen]) (.inl rfl) rfl ?_
    simp (maxSteps := 3000000) (disch := omega) only [go_sem, ↓reduceIte, reduceCtorEq, pappend, plen, hG.len, hG.get, hG.set, hG.p0, htx, e1]
    refine VCj.wr1 (hG.get _ _) (fun _ hL _ => r1 _ hL) (by simp (maxSteps := 3000000) (disch := omega) only [go_sem, ↓reduceIte, reduceCtorEq, pappend, plen]) (.inl rfl) rfl ?_
    simp (maxSteps := 3000000) (disch := omega) only [go_sem, ↓reduceIte, reduceCtorEq, pappend, plen, hG.len, hG.get, hG.set, hG.p0, hG.s0]
    refine hK _ _ ?_; clear hK K
    refine PW.ret ⟨.agg [.int .i64 5, .str [], .int .i64 0, .int .i64 0, .int .i64 0, .int .i64 0, .str (txt2 (tn L (a + 1) 2)), .slice ([.int .i64 o1, .str m1, .int .i64 f1, .int .i64 y3, .int .i64 y4, .int .i64 y5, .str y6, .slice y7 y8 y9]) 1 true], by simp (maxSteps := 3000000) (disch := omega) only [go_sem, ↓reduceIte, reduceCtorEq, pappend, plen, presults, presult, List.mapM_cons, List.mapM_nil, Option.pure_def, Option.bind_eq_bind, Option.bind_some, Array.toList, hG.p0], ?_⟩
    refine hG.fin (.id' rfl (ag_scoped fun x hx => ?_))
    simp only [List.mem_cons, List.not_mem_nil, or_false] at hx
    rcases hx with rfl | rfl | rfl | rfl | rfl | rfl | rfl | rfl
    · exact .int _ _
    · exact .str _
    · exact .int _ _
    · exact .int _ _
    · exact .int _ _
    · exact .int _ _
    · exact .str _
    · exact sl_scoped hbc
  have h7 : tn L a 8 ≠ 7 := by simpa using h
  rw [if_neg h7] at hexp
  subst hexp
  refine PW.skip ?_
  (repeat refine PW.seq ?_); refine PW.rg rfl fun K hK => ?_; simp (maxSteps := 3000000) (disch := omega) only [go_sem, ↓reduceIte, reduceCtorEq, pappend, plen]
  refine VCx.call (next_ok L f (a + 1) 3 i _ (hG.get _ _) (by omega) (by omega)) rfl ?_; simp (maxSteps := 3000000) (disch := omega) only [go_sem, ↓reduceIte, reduceCtorEq, pappend, plen, hG.set]
  refine VCx.call (name_ok [109] _ _ (by simp) (by omega)) rfl ?_; simp (maxSteps := 3000000) (disch := omega) only [go_sem, ↓reduceIte, reduceCtorEq, pappend, plen]
  refine VCx.call (next_ok L f (a + 2) 8 i _ (hG.get _ _) (by omega) (by omega)) rfl ?_; simp (maxSteps := 3000000) (disch := omega) only [go_sem, ↓reduceIte, reduceCtorEq, pappend, plen, hG.set, hG.p0, hG.s0]
  refine hK _ _ ?_; clear hK K
  refine PW.ret ⟨.agg [.int .i64 1, .str (nm [109] (tn L (a + 1) 3)), .int .i64 (tn L (a + 2) 8), .int .i64 0, .int .i64 0, .int .i64 0, .str [], .slice [] 0 true], by simp (maxSteps := 3000000) (disch := omega) only [go_sem, ↓reduceIte, reduceCtorEq, pappend, plen, presults, presult, List.mapM_cons, List.mapM_nil, Option.pure_def, Option.bind_eq_bind, Option.bind_some, Array.toList, hG.p0], ?_⟩
  exact hG.fin (.id (ag_scoped ((exOk.S _ _ (by omega)).sc _)))

theorem expr2 (L : List Int) (f : Bool) : ExprC L f 2 := exprS L f 1 (by omega) (exprS L f 0 (by omega) (expr0 L f))

end Go.Proofs.Ytnjnikafhbholaa.Sc

namespace Go.Proofs.Ytnjnikafhbholaa.Sc
set_option linter.all false
set_option linter.unusedVariables false
set_option linter.unusedSimpArgs false
open Pm Ty Go.RowKit

def hdr : List PV := [.int .i64 16, .int .i64 16, .int .i64 25, .int .i64 1, .bool false, .int .i64 400000, .int .i64 100000] ++ List.replicate 128 (.int .u8 16)
theorem header_ok (H : Heap) : CallOk Try.prog 83 [] H (.agg hdr) H := CallOk.eval 100000 (by kernel_rfl) (fun x hx => by cases hx)

end Go.Proofs.Ytnjnikafhbholaa.Sc

namespace Go.Proofs.Ytnjnikafhbholaa.Sc
set_option linter.all false
set_option linter.unusedVariables false
set_option linter.unusedSimpArgs false
open Pm Ty Go.RowKit

/-- The matrices have 64 numbers each. -/
structure SqL (s : Sq) : Prop where
  ia : s.ia.length = 64
  ie : s.ie.length = 64
theorem SqOk.toL {s : Sq} (h : SqOk s) : SqL s := ⟨h.ia, h.ie⟩
theorem eqU_def (xs ys : List PV) : peqT Try.prog 11 37 (.agg xs) (.agg ys) = if szT Try.prog 5 = some 1 ∧ xs.length = 64 ∧ ys.length = 64 then peqI (.int .u8) xs ys else none := by kernel_rfl
theorem sz_u8 : szT Try.prog 5 = some 1 := by kernel_rfl
theorem eqU (p q : List UInt8) (h : p.length = 64) (h' : q.length = 64) : peqT Try.prog 11 37 (.agg (bs p)) (.agg (bs q)) = some (p == q) := by
  rw [eqU_def, if_pos ⟨sz_u8, by rw [length_bs]; exact h, by rw [length_bs]; exact h'⟩]
  exact peqI_bs .u8 p q (by rw [h, h'])
theorem rdU_def (xs : List PV) (off : Nat) : rd Try.prog 37 xs off = if off + 64 ≤ xs.length then some (.agg ((xs.drop off).take 64)) else none := by kernel_rfl
theorem sqc_len (s : Sq) (hs : SqL s) : (sqc s).length = 135 := by
  simp only [sqc, List.length_cons, List.length_append, length_bs, hs.ia, hs.ie]
theorem rdIa (s : Sq) (hs : SqL s) : rd Try.prog 37 (sqc s) 7 = some (.agg (bs s.ia)) := by
  rw [rdU_def, if_pos (by rw [sqc_len s hs]; omega)]
  rw [show (sqc s).drop 7 = bs s.ia ++ bs s.ie from rfl, sq_ia _ _ hs.ia]
theorem rdIe (s : Sq) (hs : SqL s) : rd Try.prog 37 (sqc s) 71 = some (.agg (bs s.ie)) := by
  rw [rdU_def, if_pos (by rw [sqc_len s hs]; omega)]
  rw [show (sqc s).drop 71 = (bs s.ia ++ bs s.ie).drop 64 from rfl, sq_ie _ _ hs.ia, sq_tk _ hs.ie]
def sqF (P : Program) : List Field := match P.underlying 39 with | some (.struct fs) => fs.toList | _ => []
def sqF6 (P : Program) : List Field := (sqF P).take 6
def sqF2 (P : Program) : List Field := (sqF P).drop 6
theorem peqF_ap (eq : TypeId → PV → PV → Option Bool) (P : Program) (xs ys : List PV) (s : List Field) (b : Bool) (hs : peqF eq P xs ys s = some b) : ∀ (r : List Field) (a : Bool), peqF eq P xs ys r = some a → peqF eq P xs ys (r ++ s) = some (a && b)
  | [], a, h => by
    cases h
    exact hs
  | f :: r, a, h => by
    rw [List.cons_append]
    revert h
    simp only [peqF]
    cases decide (f.name = "_") with
    | true => intro h; cases h
    | false =>
      cases rd P f.type xs f.offset with
      | none => intro h; cases h
      | some x =>
        cases rd P f.type ys f.offset with
        | none => intro h; cases h
        | some y =>
          dsimp only
          cases eq f.type x y with
          | none => intro h; cases h
          | some c =>
            dsimp only
            cases hq : peqF eq P xs ys r with
            | none => intro h; cases h
            | some q =>
              rw [peqF_ap eq P xs ys s b hs r q hq]
              intro h
              cases h
              simp [Bool.and_assoc]
def sqA (s t : Sq) : Bool := (s.w == t.w) && ((s.h == t.h) && (((s.num == t.num) && ((s.den == t.den) && true)) && ((s.il == t.il) && ((s.br == t.br) && ((s.bf == t.bf) && true)))))
/-- Are two headers equal? -/
def sqE (s t : Sq) : Bool := sqA s t && ((s.ia == t.ia) && ((s.ie == t.ie) && true))
theorem sq6 (a1 a2 a3 a4 : Int) (a5 : Bool) (a6 a7 : Int) (p q : List UInt8) (b1 b2 b3 b4 : Int) (b5 : Bool) (b6 b7 : Int) (p' q' : List UInt8) : peqF (peqT Try.prog 11) Try.prog (sqc ⟨a1, a2, a3, a4, a5, a6, a7, p, q⟩) (sqc ⟨b1, b2, b3, b4, b5, b6, b7, p', q'⟩) (sqF6 Try.prog) = some (sqA ⟨a1, a2, a3, a4, a5, a6, a7, p, q⟩ ⟨b1, b2, b3, b4, b5, b6, b7, p', q'⟩) := by kernel_rfl
theorem sq2_def (xs ys : List PV) (x y x' y' : PV) (b b' : Bool) (hx : rd Try.prog 37 xs 7 = some x) (hy : rd Try.prog 37 ys 7 = some y) (hb : peqT Try.prog 11 37 x y = some b) (hx' : rd Try.prog 37 xs 71 = some x') (hy' : rd Try.prog 37 ys 71 = some y') (hb' : peqT Try.prog 11 37 x' y' = some b') : peqF (peqT Try.prog 11) Try.prog xs ys (sqF2 Try.prog) = some (b && (b' && true)) := by
  have e : peqF (peqT Try.prog 11) Try.prog xs ys (sqF2 Try.prog) = match rd Try.prog 37 xs 7, rd Try.prog 37 ys 7 with
      | some a, some b => match peqT Try.prog 11 37 a b with
        | some c => (match rd Try.prog 37 xs 71, rd Try.prog 37 ys 71 with
          | some a, some b => match peqT Try.prog 11 37 a b with
            | some c => some (c && true)
            | none => none
          | _, _ => none).map fun q => c && q
        | none => none
      | _, _ => none := by kernel_rfl
  rw [e, hx, hy, hx', hy']
  simp only [hb, hb', Option.map_some]
theorem peqT_sq (xs ys : List PV) : peqT Try.prog 12 39 (.agg xs) (.agg ys) = peqF (peqT Try.prog 11) Try.prog xs ys ((sqF6 Try.prog) ++ (sqF2 Try.prog)) := by kernel_rfl
theorem eqSq (s t : Sq) (hs : SqL s) (ht : SqL t) : peqG Try.prog .eql 39 (.agg (sqc s)) (.agg (sqc t)) = some (.bool (sqE s t)) := by
  have e : ∀ x y, peqG Try.prog .eql 39 x y = match peqT Try.prog 12 39 x y with | some b => peq .eql b | none => none := fun x y => by kernel_rfl
  rw [e, peqT_sq, peqF_ap _ _ _ _ _ _ (sq2_def _ _ _ _ _ _ _ _ (rdIa s hs) (rdIa t ht) (eqU _ _ hs.ia ht.ia) (rdIe s hs) (rdIe t ht) (eqU _ _ hs.ie ht.ie)) (sqF6 Try.prog) (sqA s t) (sq6 ..)]
  rfl
theorem eqSx (a1 a2 a3 a4 : Int) (a5 : Bool) (a6 a7 : Int) (p q : List UInt8) (b1 b2 b3 b4 : Int) (b5 : Bool) (b6 b7 : Int) (p' q' : List UInt8) (h1 : p.length = 64) (h2 : q.length = 64) (h3 : p'.length = 64) (h4 : q'.length = 64) :
    peqG Try.prog .eql 39 (.agg (.int .i64 a1 :: .int .i64 a2 :: .int .i64 a3 :: .int .i64 a4 :: .bool a5 :: .int .i64 a6 :: .int .i64 a7 :: (bs p ++ bs q))) (.agg (.int .i64 b1 :: .int .i64 b2 :: .int .i64 b3 :: .int .i64 b4 :: .bool b5 :: .int .i64 b6 :: .int .i64 b7 :: (bs p' ++ bs q'))) = some (.bool (sqE ⟨a1, a2, a3, a4, a5, a6, a7, p, q⟩ ⟨b1, b2, b3, b4, b5, b6, b7, p', q'⟩)) :=
  eqSq ⟨a1, a2, a3, a4, a5, a6, a7, p, q⟩ ⟨b1, b2, b3, b4, b5, b6, b7, p', q'⟩ ⟨h1, h2⟩ ⟨h3, h4⟩
/-- Do they differ in the bit rate and the buffer alone? -/
def agr (s t : Sq) : Bool := sqE s { t with br := s.br, bf := s.bf }

end Go.Proofs.Ytnjnikafhbholaa.Sc

namespace Go.Proofs.Ytnjnikafhbholaa.Sc
set_option linter.all false
set_option linter.unusedVariables false
set_option linter.unusedSimpArgs false
open Pm Ty Go.RowKit

theorem bs_cells (p q : List UInt8) : (bs p ++ bs q).all PV.cell = true := by
  rw [List.all_eq_true]
  intro x hx
  rcases List.mem_append.1 hx with h | h <;> (obtain ⟨b, _, rfl⟩ := List.mem_map.1 h; rfl)
theorem agr_ok (s t : Sq) (H : Heap) (hs : SqL s) (ht : SqL t) : CallOk Try.prog 30 [.agg (sqc s), .agg (sqc t)] H (.bool (agr s t)) H := by
  obtain ⟨a1, a2, a3, a4, a5, a6, a7, p, q⟩ := s
  obtain ⟨b1, b2, b3, b4, b5, b6, b7, p', q'⟩ := t
  obtain ⟨h1, h2⟩ := hs
  obtain ⟨h3, h4⟩ := ht
  dsimp only at h1 h2 h3 h4
  have he := eqSx a1 a2 a3 a4 a5 a6 a7 p q b1 b2 b3 b4 b5 a6 a7 p' q' h1 h2 h3 h4
  have hr : agr ⟨a1, a2, a3, a4, a5, a6, a7, p, q⟩ ⟨b1, b2, b3, b4, b5, b6, b7, p', q'⟩ = sqE ⟨a1, a2, a3, a4, a5, a6, a7, p, q⟩ ⟨b1, b2, b3, b4, b5, a6, a7, p', q'⟩ := rfl
  rw [hr]
  have c1 := bs_cells p q
  have c2 := bs_cells p' q'
  have l1 : (bs p ++ bs q).length = 128 := by rw [List.length_append, length_bs, length_bs]; omega
  have l2 : (bs p' ++ bs q').length = 128 := by rw [List.length_append, length_bs, length_bs]; omega
  have t1 := sq_all p q h1 h2
  have t2 := sq_all p' q' h3 h4
  simp only [sqc]
  generalize bs p ++ bs q = tl at *
  generalize bs p' ++ bs q' = tl' at *
  refine CallOk.body (F0 := [(0, .agg (.int .i64 a1 :: .int .i64 a2 :: .int .i64 a3 :: .int .i64 a4 :: .bool a5 :: .int .i64 a6 :: .int .i64 a7 :: tl)), (1, .agg (.int .i64 b1 :: .int .i64 b2 :: .int .i64 b3 :: .int .i64 b4 :: .bool b5 :: .int .i64 b6 :: .int .i64 b7 :: tl'))]) Try.func30 rfl Try.ntmps30 Try.results30 rfl (by kernel_rfl) rfl ?_
  (repeat refine PW.seq ?_); refine PW.rg rfl fun K hK => ?_; simp (maxSteps := 3000000) (disch := omega) only [go_sem, ↓reduceIte, reduceCtorEq, pappend, plen, c1, c2]; refine hK _ _ ?_; clear hK K
  (repeat refine PW.seq ?_); refine PW.drawi [H.length + 1] [(3, [0]), (9, [0]), (10, [0])] [] [] mix (by kernel_rfl) (by simp <;> omega) fun K hK => ?_
  simp (maxSteps := 3000000) (disch := omega) only [go_sem, ↓reduceIte, reduceCtorEq, pappend, plen, l1, l2]
  refine hK _ _ ?_; clear hK K
  (repeat refine PW.seq ?_); refine PW.rg rfl fun K hK => ?_; simp (maxSteps := 3000000) (disch := omega) only [go_sem, ↓reduceIte, reduceCtorEq, pappend, plen, l1, l2, t1, t2, ↓he]; refine hK _ _ ?_; clear hK K
  (refine PW.ret ⟨_, rfl, ?_⟩; first | refine .inl ⟨?_, rfl⟩ | refine Fin.base (.id' ?_ (.bool _)) | refine Fin.base (.id' ?_ (.int _ _)))
  rfl
theorem agr_ref (s t : Sq) (H : Heap) (hs : SqL s) (ht : SqL t) : CallOk Try.prog 31 [.agg (sqc s), .agg (sqc t)] H (.bool (agr s t)) H := by
  obtain ⟨a1, a2, a3, a4, a5, a6, a7, p, q⟩ := s
  obtain ⟨b1, b2, b3, b4, b5, b6, b7, p', q'⟩ := t
  obtain ⟨h1, h2⟩ := hs
  obtain ⟨h3, h4⟩ := ht
  dsimp only at h1 h2 h3 h4
  have he := eqSx a1 a2 a3 a4 a5 a6 a7 p q b1 b2 b3 b4 b5 a6 a7 p' q' h1 h2 h3 h4
  have hr : agr ⟨a1, a2, a3, a4, a5, a6, a7, p, q⟩ ⟨b1, b2, b3, b4, b5, b6, b7, p', q'⟩ = sqE ⟨a1, a2, a3, a4, a5, a6, a7, p, q⟩ ⟨b1, b2, b3, b4, b5, a6, a7, p', q'⟩ := rfl
  rw [hr]
  have c1 := bs_cells p q
  have c2 := bs_cells p' q'
  have l1 : (bs p ++ bs q).length = 128 := by rw [List.length_append, length_bs, length_bs]; omega
  have l2 : (bs p' ++ bs q').length = 128 := by rw [List.length_append, length_bs, length_bs]; omega
  have t1 := sq_all p q h1 h2
  have t2 := sq_all p' q' h3 h4
  simp only [sqc]
  generalize bs p ++ bs q = tl at *
  generalize bs p' ++ bs q' = tl' at *
  refine CallOk.body (F0 := [(0, .agg (.int .i64 a1 :: .int .i64 a2 :: .int .i64 a3 :: .int .i64 a4 :: .bool a5 :: .int .i64 a6 :: .int .i64 a7 :: tl)), (1, .agg (.int .i64 b1 :: .int .i64 b2 :: .int .i64 b3 :: .int .i64 b4 :: .bool b5 :: .int .i64 b6 :: .int .i64 b7 :: tl'))]) Try.func31 rfl Try.ntmps31 Try.results31 rfl (by kernel_rfl) rfl ?_
  (repeat refine PW.seq ?_); refine PW.rg rfl fun K hK => ?_; simp (maxSteps := 3000000) (disch := omega) only [go_sem, ↓reduceIte, reduceCtorEq, pappend, plen, c1, c2]; refine hK _ _ ?_; clear hK K
  (repeat refine PW.seq ?_); refine PW.drawi [H.length + 1] [(3, [0]), (9, [0]), (10, [0])] [] [] mix (by kernel_rfl) (by simp <;> omega) fun K hK => ?_
  simp (maxSteps := 3000000) (disch := omega) only [go_sem, ↓reduceIte, reduceCtorEq, pappend, plen, l1, l2]
  refine hK _ _ ?_; clear hK K
  (repeat refine PW.seq ?_); refine PW.rg rfl fun K hK => ?_; simp (maxSteps := 3000000) (disch := omega) only [go_sem, ↓reduceIte, reduceCtorEq, pappend, plen, l1, l2, t1, t2, ↓he]; refine hK _ _ ?_; clear hK K
  (refine PW.ret ⟨_, rfl, ?_⟩; first | refine .inl ⟨?_, rfl⟩ | refine Fin.base (.id' ?_ (.bool _)) | refine Fin.base (.id' ?_ (.int _ _)))
  rfl

/-- A frame of an index. -/
structure En where
  ty : Int
  ok : Bool
  fl : Int
  tf : Bool
  ot : Bool
def enc (e : En) : List PV := [.int .i64 e.ty, .bool e.ok, .int .i64 e.fl, .bool e.tf, .bool e.ot]
/-- An index. -/
structure Ix where
  nm : List UInt8
  sq : Sq
  en : List En
  g : Bool
def ixc (x : Ix) : List PV := .str x.nm :: (sqc x.sq ++ [.slice (x.en.flatMap enc) x.en.length x.g])
def enAt (l : List En) (k : Nat) : En := l.getD k ⟨0, false, 0, false, false⟩
/-- May frame n be copied? -/
def usb (s : Sq) (top : Bool) (x : Ix) (n : Int) : Bool := agr s x.sq && (decide (0 ≤ n) && (decide (n < x.en.length) && ((enAt x.en n.toNat).ok && (!(enAt x.en n.toNat).ot && (decide ((enAt x.en n.toNat).fl = 2) && (!s.il || ((enAt x.en n.toNat).tf == top)))))))

theorem fm_len {α : Type} (en : α → List PV) (m : Nat) (h : ∀ x, (en x).length = m) : ∀ l : List α, (l.flatMap en).length = l.length * m
  | [] => by simp
  | a :: r => by rw [List.flatMap_cons, List.length_append, h, fm_len en m h r, List.length_cons, Nat.succ_mul]; omega
theorem fm_at {α : Type} (en : α → List PV) (m : Nat) (h : ∀ x, (en x).length = m) (d : α) : ∀ (l : List α) (k : Nat), k < l.length → ((l.flatMap en).drop (k * m)).take m = en (l.getD k d)
  | [], k, hk => by simp at hk
  | a :: r, 0, _ => by rw [List.flatMap_cons, Nat.zero_mul, List.drop_zero, List.take_append_of_le_length (by rw [h]; exact Nat.le_refl _), List.take_of_length_le (by rw [h]; exact Nat.le_refl _)]; rfl
  | a :: r, k + 1, hk => by
    rw [List.flatMap_cons, show (k + 1) * m = (en a).length + k * m by rw [h, Nat.succ_mul]; omega, ← List.drop_drop, List.drop_left, fm_at en m h d r k (by simpa using hk)]
    rfl

set_option maxHeartbeats 2000000 in
theorem usb_ok (s : Sq) (top : Bool) (x : Ix) (n : Int) (H : Heap) (hs : SqL s) (hx : SqL x.sq) (hl : x.en.length ≤ 9223372036854775807) : CallOk Try.prog 28 [.agg (sqc s), .bool top, .agg (ixc x), .int .i64 n] H (.bool (usb s top x n)) H := by
  have ago := fun H => agr_ok s x.sq H hs hx
  have hE := fm_len enc 5 (fun _ => rfl) x.en
  have hat := fun (h0 : 0 ≤ n) (h1 : n < x.en.length) => fm_at enc 5 (fun _ => rfl) ⟨0, false, 0, false, false⟩ x.en n.toNat (by omega)
  have hr : usb s top x n = (agr s x.sq && (decide (0 ≤ n) && (decide (n < x.en.length) && ((enAt x.en n.toNat).ok && (!(enAt x.en n.toNat).ot && (decide ((enAt x.en n.toNat).fl = 2) && (!s.il || ((enAt x.en n.toNat).tf == top)))))))) := rfl
  rw [hr]
  clear hr
  generalize agr s x.sq = ag at *
  change ∀ (h0 : 0 ≤ n) (h1 : n < x.en.length), List.take 5 (List.drop (n.toNat * 5) (x.en.flatMap enc)) = enc (enAt x.en n.toNat) at hat
  generalize enAt x.en n.toNat = e at *
  obtain ⟨ety, eok, efl, etf, eot⟩ := e
  obtain ⟨a1, a2, a3, a4, a5, a6, a7, p, q⟩ := s
  obtain ⟨nm, ⟨b1, b2, b3, b4, b5, b6, b7, p', q'⟩, en, g⟩ := x
  obtain ⟨h1, h2⟩ := hs
  obtain ⟨h3, h4⟩ := hx
  dsimp only [enc] at *
  have c1 := bs_cells p q
  have c2 := bs_cells p' q'
  have l1 : (bs p ++ bs q).length = 128 := by rw [List.length_append, length_bs, length_bs]; omega
  have l2 : (bs p' ++ bs q').length = 128 := by rw [List.length_append, length_bs, length_bs]; omega
  have t1 := sq_all p q h1 h2
  simp only [sqc, ixc] at *
  generalize bs p ++ bs q = tl at *
  generalize bs p' ++ bs q' = tl' at *
  have t2 : ∀ r, List.take 128 (tl' ++ r) = tl' := fun r => by rw [← l2]; exact List.take_left
  have t3 : ∀ y, (tl' ++ [y])[128]? = some y := fun y => by rw [← l2]; simp
  generalize hEE : en.flatMap _ = E at *
  refine CallOk.body (F0 := [(0, .agg (.int .i64 a1 :: .int .i64 a2 :: .int .i64 a3 :: .int .i64 a4 :: .bool a5 :: .int .i64 a6 :: .int .i64 a7 :: tl)), (1, .bool top), (2, .agg (.str nm :: .int .i64 b1 :: .int .i64 b2 :: .int .i64 b3 :: .int .i64 b4 :: .bool b5 :: .int .i64 b6 :: .int .i64 b7 :: (tl' ++ [.slice E en.length g]))), (3, .int .i64 n)]) Try.func28 rfl Try.ntmps28 Try.results28 rfl (by kernel_rfl) rfl ?_
  (repeat refine PW.seq ?_); refine PW.rg rfl fun K hK => ?_; simp (maxSteps := 3000000) (disch := omega) only [go_sem, ↓reduceIte, reduceCtorEq, pappend, plen, c1, c2, List.all_append]; refine hK _ _ ?_; clear hK K
  (repeat' (first | refine PW.seq ?_ | refine PW.skip ?_ | refine PW.block ?_ | (refine PW.rg rfl fun K hK => ?_; simp (maxSteps := 3000000) (disch := omega) only [go_sem, ↓reduceIte, reduceCtorEq, pappend, plen, l1, l2, t1, t2, t3, hat, hE, List.length_append]) | (refine PW.draw mix (by kernel_rfl) fun K hK => ?_; simp (maxSteps := 3000000) (disch := omega) only [go_sem, ↓reduceIte, reduceCtorEq, pappend, plen, l1, l2, t1, t2, t3, hat, hE, List.length_append]) | (refine PW.drawg mix (by kernel_rfl) fun K hK => ?_; simp (maxSteps := 3000000) (disch := omega) only [go_sem, ↓reduceIte, reduceCtorEq, pappend, plen, l1, l2, t1, t2, t3, hat, hE, List.length_append]) | ((first | refine VO_cond (fun h => ?_) (fun h => ?_) | refine VOd_cond (fun h => ?_) (fun h => ?_) | refine VOg_cond (fun h => ?_) (fun h => ?_) | refine VOh_cond (fun h => ?_) (fun h => ?_) | refine VOi_cond (fun h => ?_) (fun h => ?_) | refine And.intro (fun h => ?_) (fun h => ?_)) <;> (try simp only [Bool.not_eq_true', Bool.not_eq_false', decide_eq_true_eq, decide_eq_false_iff_not] at h) <;> simp (maxSteps := 3000000) (disch := omega) only [go_sem, ↓reduceIte, reduceCtorEq, pappend, plen, l1, l2, t1, t2, t3, hat, hE, List.length_append, h]) | (refine VCx.call (ago _) rfl ?_; simp (maxSteps := 3000000) (disch := omega) only [go_sem, ↓reduceIte, reduceCtorEq, pappend, plen, l1, l2, t1, t2, t3, hat, hE, List.length_append]) | (refine VCy.call (ago _) rfl ?_; simp (maxSteps := 3000000) (disch := omega) only [go_sem, ↓reduceIte, reduceCtorEq, pappend, plen, l1, l2, t1, t2, t3, hat, hE, List.length_append]) | (refine VCz.call (fun _ => ago _) rfl ?_; simp (maxSteps := 3000000) (disch := omega) only [go_sem, ↓reduceIte, reduceCtorEq, pappend, plen, l1, l2, t1, t2, t3, hat, hE, List.length_append]) | (refine VCk.call (fun _ _ => ago _) rfl ?_; simp (maxSteps := 3000000) (disch := omega) only [go_sem, ↓reduceIte, reduceCtorEq, pappend, plen, l1, l2, t1, t2, t3, hat, hE, List.length_append]) | (refine hK _ _ ?_; clear hK K) | (refine PW.cond (t := _) rfl (fun h => ?_) (fun h => ?_) <;> (try (cases h; done)) <;> (try simp only [Bool.not_eq_true', Bool.not_eq_false', decide_eq_true_eq, decide_eq_false_iff_not] at h))))
  all_goals ((refine PW.ret ⟨_, rfl, ?_⟩; first | refine .inl ⟨?_, rfl⟩ | refine Fin.base (.id' ?_ (.bool _)) | refine Fin.base (.id' ?_ (.int _ _))); clear ago c1 c2 t1 t2 t3 hat hE hEE; (simp_all [slot, Nat.beq] <;> first | rfl | omega | (rw [Bool.eq_iff_iff]; simp; done) | (rw [Bool.eq_iff_iff]; simp; omega)))

set_option maxHeartbeats 2000000 in
theorem usb_ref (s : Sq) (top : Bool) (x : Ix) (n : Int) (H : Heap) (hs : SqL s) (hx : SqL x.sq) (hl : x.en.length ≤ 9223372036854775807) : CallOk Try.prog 29 [.agg (sqc s), .bool top, .agg (ixc x), .int .i64 n] H (.bool (usb s top x n)) H := by
  have ago := fun H => agr_ref s x.sq H hs hx
  have hE := fm_len enc 5 (fun _ => rfl) x.en
  have hat := fun (h0 : 0 ≤ n) (h1 : n < x.en.length) => fm_at enc 5 (fun _ => rfl) ⟨0, false, 0, false, false⟩ x.en n.toNat (by omega)
  have hr : usb s top x n = (agr s x.sq && (decide (0 ≤ n) && (decide (n < x.en.length) && ((enAt x.en n.toNat).ok && (!(enAt x.en n.toNat).ot && (decide ((enAt x.en n.toNat).fl = 2) && (!s.il || ((enAt x.en n.toNat).tf == top)))))))) := rfl
  rw [hr]
  clear hr
  generalize agr s x.sq = ag at *
  change ∀ (h0 : 0 ≤ n) (h1 : n < x.en.length), List.take 5 (List.drop (n.toNat * 5) (x.en.flatMap enc)) = enc (enAt x.en n.toNat) at hat
  generalize enAt x.en n.toNat = e at *
  obtain ⟨ety, eok, efl, etf, eot⟩ := e
  obtain ⟨a1, a2, a3, a4, a5, a6, a7, p, q⟩ := s
  obtain ⟨nm, ⟨b1, b2, b3, b4, b5, b6, b7, p', q'⟩, en, g⟩ := x
  obtain ⟨h1, h2⟩ := hs
  obtain ⟨h3, h4⟩ := hx
  dsimp only [enc] at *
  have c1 := bs_cells p q
  have c2 := bs_cells p' q'
  have l1 : (bs p ++ bs q).length = 128 := by rw [List.length_append, length_bs, length_bs]; omega
  have l2 : (bs p' ++ bs q').length = 128 := by rw [List.length_append, length_bs, length_bs]; omega
  have t1 := sq_all p q h1 h2
  simp only [sqc, ixc] at *
  generalize bs p ++ bs q = tl at *
  generalize bs p' ++ bs q' = tl' at *
  have t2 : ∀ r, List.take 128 (tl' ++ r) = tl' := fun r => by rw [← l2]; exact List.take_left
  have t3 : ∀ y, (tl' ++ [y])[128]? = some y := fun y => by rw [← l2]; simp
  generalize hEE : en.flatMap _ = E at *
  refine CallOk.body (F0 := [(0, .agg (.int .i64 a1 :: .int .i64 a2 :: .int .i64 a3 :: .int .i64 a4 :: .bool a5 :: .int .i64 a6 :: .int .i64 a7 :: tl)), (1, .bool top), (2, .agg (.str nm :: .int .i64 b1 :: .int .i64 b2 :: .int .i64 b3 :: .int .i64 b4 :: .bool b5 :: .int .i64 b6 :: .int .i64 b7 :: (tl' ++ [.slice E en.length g]))), (3, .int .i64 n)]) Try.func29 rfl Try.ntmps29 Try.results29 rfl (by kernel_rfl) rfl ?_
  (repeat refine PW.seq ?_); refine PW.rg rfl fun K hK => ?_; simp (maxSteps := 3000000) (disch := omega) only [go_sem, ↓reduceIte, reduceCtorEq, pappend, plen, c1, c2, List.all_append]; refine hK _ _ ?_; clear hK K
  (repeat' (first | refine PW.seq ?_ | refine PW.skip ?_ | refine PW.block ?_ | (refine PW.rg rfl fun K hK => ?_; simp (maxSteps := 3000000) (disch := omega) only [go_sem, ↓reduceIte, reduceCtorEq, pappend, plen, l1, l2, t1, t2, t3, hat, hE, List.length_append]) | (refine PW.draw mix (by kernel_rfl) fun K hK => ?_; simp (maxSteps := 3000000) (disch := omega) only [go_sem, ↓reduceIte, reduceCtorEq, pappend, plen, l1, l2, t1, t2, t3, hat, hE, List.length_append]) | (refine PW.drawg mix (by kernel_rfl) fun K hK => ?_; simp (maxSteps := 3000000) (disch := omega) only [go_sem, ↓reduceIte, reduceCtorEq, pappend, plen, l1, l2, t1, t2, t3, hat, hE, List.length_append]) | ((first | refine VO_cond (fun h => ?_) (fun h => ?_) | refine VOd_cond (fun h => ?_) (fun h => ?_) | refine VOg_cond (fun h => ?_) (fun h => ?_) | refine VOh_cond (fun h => ?_) (fun h => ?_) | refine VOi_cond (fun h => ?_) (fun h => ?_) | refine And.intro (fun h => ?_) (fun h => ?_)) <;> (try simp only [Bool.not_eq_true', Bool.not_eq_false', decide_eq_true_eq, decide_eq_false_iff_not] at h) <;> simp (maxSteps := 3000000) (disch := omega) only [go_sem, ↓reduceIte, reduceCtorEq, pappend, plen, l1, l2, t1, t2, t3, hat, hE, List.length_append, h]) | (refine VCx.call (ago _) rfl ?_; simp (maxSteps := 3000000) (disch := omega) only [go_sem, ↓reduceIte, reduceCtorEq, pappend, plen, l1, l2, t1, t2, t3, hat, hE, List.length_append]) | (refine VCy.call (ago _) rfl ?_; simp (maxSteps := 3000000) (disch := omega) only [go_sem, ↓reduceIte, reduceCtorEq, pappend, plen, l1, l2, t1, t2, t3, hat, hE, List.length_append]) | (refine VCz.call (fun _ => ago _) rfl ?_; simp (maxSteps := 3000000) (disch := omega) only [go_sem, ↓reduceIte, reduceCtorEq, pappend, plen, l1, l2, t1, t2, t3, hat, hE, List.length_append]) | (refine VCk.call (fun _ _ => ago _) rfl ?_; simp (maxSteps := 3000000) (disch := omega) only [go_sem, ↓reduceIte, reduceCtorEq, pappend, plen, l1, l2, t1, t2, t3, hat, hE, List.length_append]) | (refine hK _ _ ?_; clear hK K) | (refine PW.cond (t := _) rfl (fun h => ?_) (fun h => ?_) <;> (try (cases h; done)) <;> (try simp only [Bool.not_eq_true', Bool.not_eq_false', decide_eq_true_eq, decide_eq_false_iff_not] at h))))
  all_goals ((refine PW.ret ⟨_, rfl, ?_⟩; first | refine .inl ⟨?_, rfl⟩ | refine Fin.base (.id' ?_ (.bool _)) | refine Fin.base (.id' ?_ (.int _ _))); clear ago c1 c2 t1 t2 t3 hat hE hEE; (simp_all [slot, Nat.beq] <;> first | rfl | omega | (rw [Bool.eq_iff_iff]; simp; done) | (rw [Bool.eq_iff_iff]; simp; omega)))

end Go.Proofs.Ytnjnikafhbholaa.Sc
