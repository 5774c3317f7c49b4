/-
  Parts of the proof. No condition.
-/
import Derived.Test.YtbhdollgohgkgaaGreatDoorA06
import Derived.Test.YtbhdollgohgkgaaGreatDoorRows
import Derived.Test.YtbhdollgohgkgaaGreatDoorA04
namespace Go.Proofs.YtbhdollgohgkgaaGreatDoor.Sc
set_option linter.all false
set_option linter.unusedVariables false
set_option linter.unusedSimpArgs false
open Pm Ty Go.RowKit

def mbs (n most : Int) : Bool := decide (16 ≤ n) && decide (n ≤ most) && (n.tmod 16 == 0)
theorem mbs_ok (n most : Int) (H : Heap) : CallOk Tryz.prog 105 [.int .i64 n, .int .i64 most] H (.bool (mbs n most)) H := by
  refine CallOk.body (F0 := [(0, .int .i64 n), (1, .int .i64 most)]) Tryz.func105 rfl Tryz.ntmps105 Tryz.results105 rfl (by kernel_rfl) rfl ?_
  (repeat refine PW.seq ?_); refine PW.rg rfl fun K hK => ?_; simp (maxSteps := 3000000) (disch := omega) only [go_sem, ↓reduceIte, reduceCtorEq, pappend, plen]; refine hK _ _ ?_; clear hK K
  (repeat refine PW.seq ?_); refine PW.rg rfl fun K hK => ?_; simp (maxSteps := 3000000) (disch := omega) only [go_sem, ↓reduceIte, reduceCtorEq, pappend, plen]; (repeat' ((first | refine VO_cond ?_ ?_ | refine VOd_cond ?_ ?_ | refine VOg_cond ?_ ?_ | refine VOh_cond ?_ ?_ | refine VOi_cond ?_ ?_ | refine And.intro ?_ ?_) <;> intro h <;> (try simp only [Bool.not_eq_true', Bool.not_eq_false', decide_eq_true_eq, decide_eq_false_iff_not] at h) <;> simp (maxSteps := 3000000) (disch := omega) only [go_sem, ↓reduceIte, reduceCtorEq, pappend, plen, h]))
  all_goals (refine hK _ _ ?_; clear hK K)
  all_goals (refine PW.ret ⟨_, rfl, .inl ⟨?_, rfl⟩⟩; simp_all [mbs, slot, Nat.beq]; try omega)

theorem gcd_ok (x y : Nat) (H : Heap) : CallOk Tryz.prog 111 [.int .u64 (x : Int), .int .u64 (y : Int)] H (.int .u64 (Nat.gcd x y : Int)) H := by
  generalize hr : Nat.gcd x y = r
  refine CallOk.body (F0 := [(0, .int .u64 (x : Int)), (1, .int .u64 (y : Int))]) Tryz.func111 rfl Tryz.ntmps111 Tryz.results111 rfl (by kernel_rfl) rfl ?_
  (repeat refine PW.seq ?_); refine PW.rg rfl fun K hK => ?_; simp (maxSteps := 3000000) (disch := omega) only [go_sem, ↓reduceIte, reduceCtorEq, pappend, plen]; refine hK _ _ ?_; clear hK K
  (repeat refine PW.seq ?_); refine PW.block (PW.loop ?_)
  refine PL.at [0, 1] (?_ : PL _ _ _ [(0, .int .u64 (x : Int)), (1, .int .u64 (y : Int))] H _) rfl rfl
  induction hm : y using Nat.strongRecOn generalizing x y with
  | _ n ih =>
    subst hm
    refine PL.round ?_; (repeat refine PW.seq ?_); refine PW.rg rfl fun K hK => ?_; simp (maxSteps := 3000000) (disch := omega) only [go_sem, ↓reduceIte, reduceCtorEq, pappend, plen]; refine hK _ _ ?_; clear hK K
    (repeat refine PW.seq ?_); refine PW.cond (t := _) rfl (fun h => ?_) (fun h => ?_)
    · have hy : y ≠ 0 := by simp_all
      refine PW.skip ?_; (repeat refine PW.seq ?_); refine PW.block ?_; (repeat refine PW.seq ?_); refine PW.draw mix (by kernel_rfl) fun K hK => ?_; simp (maxSteps := 3000000) (disch := omega) only [go_sem, ↓reduceIte, reduceCtorEq, pappend, plen, tmodN]; refine hK _ _ ?_; clear hK K
      exact PL.at [0, 1] (ih (x % y) (Nat.mod_lt _ (by omega)) y (x % y) (by rw [← hr, Nat.gcd_comm x y, Nat.gcd_rec y x, Nat.gcd_comm]) rfl) rfl rfl
    · have hy : y = 0 := by simpa using h
      subst hy
      refine PW.exit ?_
      (repeat refine PW.seq ?_); refine PW.rg rfl fun K hK => ?_; simp (maxSteps := 3000000) (disch := omega) only [go_sem, ↓reduceIte, reduceCtorEq, pappend, plen]; refine hK _ _ ?_; clear hK K
      exact PW.ret ⟨_, rfl, .inl ⟨by rw [← hr, Nat.gcd_zero_right]; rfl, rfl⟩⟩
theorem gcd_ref (x y : Nat) (H : Heap) : CallOk Tryz.prog 109 [.int .u64 (x : Int), .int .u64 (y : Int)] H (.int .u64 (Nat.gcd x y : Int)) H := by
  generalize hr : Nat.gcd x y = r
  refine CallOk.body (F0 := [(0, .int .u64 (x : Int)), (1, .int .u64 (y : Int))]) Tryz.func109 rfl Tryz.ntmps109 Tryz.results109 rfl (by kernel_rfl) rfl ?_
  (repeat refine PW.seq ?_); refine PW.rg rfl fun K hK => ?_; simp (maxSteps := 3000000) (disch := omega) only [go_sem, ↓reduceIte, reduceCtorEq, pappend, plen]; refine hK _ _ ?_; clear hK K
  (repeat refine PW.seq ?_); refine PW.block (PW.loop ?_)
  refine PL.at [0, 1] (?_ : PL _ _ _ [(0, .int .u64 (x : Int)), (1, .int .u64 (y : Int))] H _) rfl rfl
  induction hm : y using Nat.strongRecOn generalizing x y with
  | _ n ih =>
    subst hm
    refine PL.round ?_; (repeat refine PW.seq ?_); refine PW.rg rfl fun K hK => ?_; simp (maxSteps := 3000000) (disch := omega) only [go_sem, ↓reduceIte, reduceCtorEq, pappend, plen]; refine hK _ _ ?_; clear hK K
    (repeat refine PW.seq ?_); refine PW.cond (t := _) rfl (fun h => ?_) (fun h => ?_)
    · have hy : y ≠ 0 := by simp_all
      refine PW.skip ?_; (repeat refine PW.seq ?_); refine PW.block ?_; (repeat refine PW.seq ?_); refine PW.draw mix (by kernel_rfl) fun K hK => ?_; simp (maxSteps := 3000000) (disch := omega) only [go_sem, ↓reduceIte, reduceCtorEq, pappend, plen, tmodN]; refine hK _ _ ?_; clear hK K
      exact PL.at [0, 1] (ih (x % y) (Nat.mod_lt _ (by omega)) y (x % y) (by rw [← hr, Nat.gcd_comm x y, Nat.gcd_rec y x, Nat.gcd_comm]) rfl) rfl rfl
    · have hy : y = 0 := by simpa using h
      subst hy
      refine PW.exit ?_
      (repeat refine PW.seq ?_); refine PW.rg rfl fun K hK => ?_; simp (maxSteps := 3000000) (disch := omega) only [go_sem, ↓reduceIte, reduceCtorEq, pappend, plen]; refine hK _ _ ?_; clear hK K
      exact PW.ret ⟨_, rfl, .inl ⟨by rw [← hr, Nat.gcd_zero_right]; rfl, rfl⟩⟩
theorem magn_ok (n : Int) (H : Heap) (hn : -9223372036854775808 ≤ n ∧ n ≤ 9223372036854775807) : CallOk Tryz.prog 112 [.int .i64 n] H (.int .u64 (n.natAbs : Int)) H := by
  refine CallOk.body (F0 := [(0, .int .i64 n)]) Tryz.func112 rfl Tryz.ntmps112 Tryz.results112 rfl (by kernel_rfl) rfl ?_
  (repeat refine PW.seq ?_); refine PW.rg rfl fun K hK => ?_; simp (maxSteps := 3000000) (disch := omega) only [go_sem, ↓reduceIte, reduceCtorEq, pappend, plen]; refine hK _ _ ?_; clear hK K
  (repeat refine PW.seq ?_); refine PW.rg rfl fun K hK => ?_; simp (maxSteps := 3000000) (disch := omega) only [go_sem, ↓reduceIte, reduceCtorEq, pappend, plen]; refine hK _ _ ?_; clear hK K
  (repeat refine PW.seq ?_); refine PW.cond (t := _) rfl (fun h => ?_) (fun h => ?_)
  · have h1 := of_decide_eq_true h
    (repeat refine PW.seq ?_); refine PW.rg rfl fun K hK => ?_; simp (maxSteps := 3000000) (disch := omega) only [go_sem, ↓reduceIte, reduceCtorEq, pappend, plen, wu64n]; refine hK _ _ ?_; clear hK K
    refine PW.ret ⟨_, rfl, .inl ⟨?_, rfl⟩⟩
    have e : (n.natAbs : Int) = 0 - (n + 18446744073709551616) + 18446744073709551616 := by omega
    rw [e]; rfl
  · have h1 := of_decide_eq_false h
    refine PW.skip ?_
    (repeat refine PW.seq ?_); refine PW.rg rfl fun K hK => ?_; simp (maxSteps := 3000000) (disch := omega) only [go_sem, ↓reduceIte, reduceCtorEq, pappend, plen, wu64]; refine hK _ _ ?_; clear hK K
    refine PW.ret ⟨_, rfl, .inl ⟨?_, rfl⟩⟩
    have e : (n.natAbs : Int) = n := by omega
    rw [e]; rfl
theorem magn_ref (n : Int) (H : Heap) (hn : -9223372036854775808 ≤ n ∧ n ≤ 9223372036854775807) : CallOk Tryz.prog 110 [.int .i64 n] H (.int .u64 (n.natAbs : Int)) H := by
  refine CallOk.body (F0 := [(0, .int .i64 n)]) Tryz.func110 rfl Tryz.ntmps110 Tryz.results110 rfl (by kernel_rfl) rfl ?_
  (repeat refine PW.seq ?_); refine PW.rg rfl fun K hK => ?_; simp (maxSteps := 3000000) (disch := omega) only [go_sem, ↓reduceIte, reduceCtorEq, pappend, plen]; refine hK _ _ ?_; clear hK K
  (repeat refine PW.seq ?_); refine PW.rg rfl fun K hK => ?_; simp (maxSteps := 3000000) (disch := omega) only [go_sem, ↓reduceIte, reduceCtorEq, pappend, plen]; refine hK _ _ ?_; clear hK K
  (repeat refine PW.seq ?_); refine PW.cond (t := _) rfl (fun h => ?_) (fun h => ?_)
  · have h1 := of_decide_eq_true h
    (repeat refine PW.seq ?_); refine PW.rg rfl fun K hK => ?_; simp (maxSteps := 3000000) (disch := omega) only [go_sem, ↓reduceIte, reduceCtorEq, pappend, plen, wu64]; refine hK _ _ ?_; clear hK K
    refine PW.ret ⟨_, rfl, .inl ⟨?_, rfl⟩⟩
    have e : (n.natAbs : Int) = 0 - (n + 1) + 1 := by omega
    rw [e]; rfl
  · have h1 := of_decide_eq_false h
    refine PW.skip ?_
    (repeat refine PW.seq ?_); refine PW.rg rfl fun K hK => ?_; simp (maxSteps := 3000000) (disch := omega) only [go_sem, ↓reduceIte, reduceCtorEq, pappend, plen, wu64]; refine hK _ _ ?_; clear hK K
    refine PW.ret ⟨_, rfl, .inl ⟨?_, rfl⟩⟩
    have e : (n.natAbs : Int) = n := by omega
    rw [e]; rfl

def ratOk (num den : Int) : Bool := decide (1 ≤ den) && decide (-9223372036854775808 < num) && (Nat.gcd num.natAbs den.natAbs == 1)
theorem rat_ok (num den : Int) (H : Heap) (hn : -9223372036854775808 ≤ num ∧ num ≤ 9223372036854775807) (hd : -9223372036854775808 ≤ den ∧ den ≤ 9223372036854775807) :
    CallOk Tryz.prog 106 [.agg [.int .i64 num, .int .i64 den]] H (.bool (ratOk num den)) H := by
  generalize hr : ratOk num den = r
  refine CallOk.body (F0 := [(0, .agg [.int .i64 num, .int .i64 den])]) Tryz.func106 rfl Tryz.ntmps106 Tryz.results106 rfl (by kernel_rfl) rfl ?_
  (repeat refine PW.seq ?_); refine PW.rg rfl fun K hK => ?_; simp (maxSteps := 3000000) (disch := omega) only [go_sem, ↓reduceIte, reduceCtorEq, pappend, plen]; refine hK _ _ ?_; clear hK K
  (repeat refine PW.seq ?_); refine PW.draw mix (by kernel_rfl) fun K hK => ?_; simp (maxSteps := 3000000) (disch := omega) only [go_sem, ↓reduceIte, reduceCtorEq, pappend, plen, wu64]; (repeat' ((first | refine VO_cond ?_ ?_ | refine VOd_cond ?_ ?_ | refine VOg_cond ?_ ?_ | refine VOh_cond ?_ ?_ | refine VOi_cond ?_ ?_ | refine And.intro ?_ ?_) <;> intro h <;> (try simp only [Bool.not_eq_true', Bool.not_eq_false', decide_eq_true_eq, decide_eq_false_iff_not] at h) <;> simp (maxSteps := 3000000) (disch := omega) only [go_sem, ↓reduceIte, reduceCtorEq, pappend, plen, wu64, h]))
  · rename_i h1
    have e : den = ((den.natAbs : Nat) : Int) := by omega
    have hg := gcd_ok num.natAbs den.natAbs (H ++ [⟨48, 0, [.int .i64 num, .int .i64 den]⟩])
    rw [← e] at hg
    refine VCy.call (magn_ok _ _ hn) rfl ?_; simp (maxSteps := 3000000) (disch := omega) only [go_sem, ↓reduceIte, reduceCtorEq, pappend, plen, wu64]; refine VCy.call (hg) rfl ?_; simp (maxSteps := 3000000) (disch := omega) only [go_sem, ↓reduceIte, reduceCtorEq, pappend, plen]
    refine hK _ _ ?_; clear hK K
    refine PW.ret ⟨_, rfl, Fin.base (.id' ?_ (.bool _))⟩
    rw [← hr]
    simp [ratOk, slot, Nat.beq, h, h1]
    rw [Bool.eq_iff_iff]; simp; omega
  all_goals (refine hK _ _ ?_; clear hK K)
  all_goals (refine PW.ret ⟨_, rfl, Fin.base (.id' ?_ (.bool _))⟩; rw [← hr]; simp_all [ratOk, slot, Nat.beq]; try omega)
theorem rat_ref (num den : Int) (H : Heap) (hn : -9223372036854775808 ≤ num ∧ num ≤ 9223372036854775807) (hd : -9223372036854775808 ≤ den ∧ den ≤ 9223372036854775807) :
    CallOk Tryz.prog 103 [.agg [.int .i64 num, .int .i64 den]] H (.bool (ratOk num den)) H := by
  generalize hr : ratOk num den = r
  refine CallOk.body (F0 := [(0, .agg [.int .i64 num, .int .i64 den])]) Tryz.func103 rfl Tryz.ntmps103 Tryz.results103 rfl (by kernel_rfl) rfl ?_
  (repeat refine PW.seq ?_); refine PW.rg rfl fun K hK => ?_; simp (maxSteps := 3000000) (disch := omega) only [go_sem, ↓reduceIte, reduceCtorEq, pappend, plen]; refine hK _ _ ?_; clear hK K
  (repeat refine PW.seq ?_); refine PW.draw mix (by kernel_rfl) fun K hK => ?_; simp (maxSteps := 3000000) (disch := omega) only [go_sem, ↓reduceIte, reduceCtorEq, pappend, plen, wu64]; (repeat' ((first | refine VO_cond ?_ ?_ | refine VOd_cond ?_ ?_ | refine VOg_cond ?_ ?_ | refine VOh_cond ?_ ?_ | refine VOi_cond ?_ ?_ | refine And.intro ?_ ?_) <;> intro h <;> (try simp only [Bool.not_eq_true', Bool.not_eq_false', decide_eq_true_eq, decide_eq_false_iff_not] at h) <;> simp (maxSteps := 3000000) (disch := omega) only [go_sem, ↓reduceIte, reduceCtorEq, pappend, plen, wu64, h]))
  · rename_i h1
    have e : den = ((den.natAbs : Nat) : Int) := by omega
    have hg := gcd_ref num.natAbs den.natAbs (H ++ [⟨48, 0, [.int .i64 num, .int .i64 den]⟩])
    rw [← e] at hg
    refine VCy.call (magn_ref _ _ hn) rfl ?_; simp (maxSteps := 3000000) (disch := omega) only [go_sem, ↓reduceIte, reduceCtorEq, pappend, plen, wu64]; refine VCy.call (hg) rfl ?_; simp (maxSteps := 3000000) (disch := omega) only [go_sem, ↓reduceIte, reduceCtorEq, pappend, plen]
    refine hK _ _ ?_; clear hK K
    refine PW.ret ⟨_, rfl, Fin.base (.id' ?_ (.bool _))⟩
    rw [← hr]
    have h2 : -9223372036854775808 < num := by omega
    simp [ratOk, slot, Nat.beq, h, h1, h2]
    rw [Bool.eq_iff_iff]; simp; omega
  all_goals (refine hK _ _ ?_; clear hK K)
  all_goals (refine PW.ret ⟨_, rfl, Fin.base (.id' ?_ (.bool _))⟩; rw [← hr]; clear hr)
  · have h2 : ¬ -9223372036854775808 < num := by omega
    simp [ratOk, slot, Nat.beq, h2]
  · simp_all [ratOk, slot, Nat.beq]; try omega

/-- A sequence header. -/
structure Sq where
  w : Int
  h : Int
  num : Int
  den : Int
  il : Bool
  br : Int
  bf : Int
  ia : List UInt8
  ie : List UInt8
def sqc (s : Sq) : List PV := .int .i64 s.w :: .int .i64 s.h :: .int .i64 s.num :: .int .i64 s.den :: .bool s.il :: .int .i64 s.br :: .int .i64 s.bf :: (bs s.ia ++ bs s.ie)
def i64r (n : Int) : Prop := -9223372036854775808 ≤ n ∧ n ≤ 9223372036854775807
structure SqOk (s : Sq) : Prop where
  w : -9223372036854775808 ≤ s.w ∧ s.w ≤ 9223372036854775807
  h : -9223372036854775808 ≤ s.h ∧ s.h ≤ 9223372036854775807
  num : -9223372036854775808 ≤ s.num ∧ s.num ≤ 9223372036854775807
  den : -9223372036854775808 ≤ s.den ∧ s.den ≤ 9223372036854775807
  br : -9223372036854775808 ≤ s.br ∧ s.br ≤ 9223372036854775807
  bf : -9223372036854775808 ≤ s.bf ∧ s.bf ≤ 9223372036854775807
  ia : s.ia.length = 64
  ie : s.ie.length = 64
theorem sqc_scoped (n : Nat) (s : Sq) : ∀ x ∈ sqc s, Scoped n x := fun x hx => by
  simp only [sqc, List.mem_cons, List.mem_append] at hx
  rcases hx with rfl | rfl | rfl | rfl | rfl | rfl | rfl | hx | hx
  all_goals first | exact .int _ _ | exact .bool _ | exact bs_scoped n _ x hx
theorem sq_ia (p q : List UInt8) (h : p.length = 64) : (bs p ++ bs q).take 64 = bs p := by
  simp_all [List.take_append_of_le_length, length_bs, List.take_of_length_le]
theorem sq_ie (p q : List UInt8) (h : p.length = 64) : (bs p ++ bs q).drop 64 = bs q := by
  simp_all [List.drop_append_of_le_length, length_bs, List.drop_of_length_le, List.nil_append]
theorem sq_tk (q : List UInt8) (h : q.length = 64) : (bs q).take 64 = bs q := List.take_of_length_le (by rw [length_bs]; omega)

theorem sq_all (p q : List UInt8) (h : p.length = 64) (h' : q.length = 64) : (bs p ++ bs q).take 128 = bs p ++ bs q := List.take_of_length_le (by rw [List.length_append, length_bs, length_bs]; omega)
def mxOk (m : List UInt8) : Bool := m.all fun b => decide (8 ≤ b.toNat)
theorem mxOk_at (m : List UInt8) (k : Nat) (hk : k ≤ m.length) : (m.drop k).all (fun b => decide (8 ≤ b.toNat)) = if k < m.length then decide (8 ≤ byt m k) && (m.drop (k + 1)).all (fun b => decide (8 ≤ b.toNat)) else true := by
  grind [List.drop_eq_getElem_cons, byt, List.drop_of_length_le]
theorem mx_ok (m : List UInt8) (H : Heap) (hl : m.length = 64) : CallOk Tryz.prog 107 [.agg (bs m)] H (.bool (mxOk m)) H := by
  refine CallOk.body (F0 := [(0, .agg (bs m))]) Tryz.func107 rfl Tryz.ntmps107 Tryz.results107 rfl (by kernel_rfl) rfl ?_
  have hall : (bs m).all PV.cell = true := by simp [bs, PV.cell]
  (repeat refine PW.seq ?_); refine PW.rg rfl fun K hK => ?_; simp (maxSteps := 3000000) (disch := omega) only [go_sem, ↓reduceIte, reduceCtorEq, pappend, plen, hall]; refine hK _ _ ?_; clear hK K
  (repeat refine PW.seq ?_); refine PW.rg rfl fun K hK => ?_; simp (maxSteps := 3000000) (disch := omega) only [go_sem, ↓reduceIte, reduceCtorEq, pappend, plen, length_bs, sq_tk]; refine hK _ _ ?_; clear hK K
  (repeat refine PW.seq ?_); refine PW.block (PW.loop ?_)
  suffices hloop : ∀ (k : Nat), k ≤ 64 → mxOk m = (m.drop k).all (fun b => decide (8 ≤ b.toNat)) → PL Tryz.prog _ _ [(5, .agg (bs m)), (6, .int .i64 (k : Int))] (H ++ [⟨49, 0, bs m⟩]) _ by
    exact PL.at [5, 6] (hloop 0 (by omega) (by simp [mxOk])) rfl rfl
  intro k hk heq
  induction hm : 64 - k using Nat.strongRecOn generalizing k with
  | _ n ih =>
    rw [mxOk_at m k (by omega)] at heq
    refine PL.round ?_; (repeat refine PW.seq ?_); refine PW.rg rfl fun K hK => ?_; simp (maxSteps := 3000000) (disch := omega) only [go_sem, ↓reduceIte, reduceCtorEq, pappend, plen]; refine hK _ _ ?_; clear hK K
    (repeat refine PW.seq ?_); refine PW.cond (t := _) rfl (fun h => ?_) (fun h => ?_)
    · have h4 : k < 64 := by grind
      rw [if_pos (by omega)] at heq
      refine PW.skip ?_; (repeat refine PW.seq ?_); refine PW.block ?_
      (repeat refine PW.seq ?_); refine PW.rg rfl fun K hK => ?_; simp (maxSteps := 3000000) (disch := omega) only [go_sem, ↓reduceIte, reduceCtorEq, pappend, plen, bs_get]; refine hK _ _ ?_; clear hK K
      (repeat refine PW.seq ?_); refine PW.rg rfl fun K hK => ?_; simp (maxSteps := 3000000) (disch := omega) only [go_sem, ↓reduceIte, reduceCtorEq, pappend, plen]; refine hK _ _ ?_; clear hK K
      (repeat refine PW.seq ?_); refine PW.cond (t := _) rfl (fun h => ?_) (fun h => ?_)
      · have h5 := of_decide_eq_true h
        (repeat refine PW.seq ?_); refine PW.rg rfl fun K hK => ?_; simp (maxSteps := 3000000) (disch := omega) only [go_sem, ↓reduceIte, reduceCtorEq, pappend, plen]; refine hK _ _ ?_; clear hK K
        refine PW.ret ⟨_, rfl, Fin.base (.id' ?_ (.bool _))⟩
        grind [slot, Nat.beq]
      · have h5 := of_decide_eq_false h
        refine PW.skip ?_
        (repeat refine PW.seq ?_); refine PW.rg rfl fun K hK => ?_; simp (maxSteps := 3000000) (disch := omega) only [go_sem, ↓reduceIte, reduceCtorEq, pappend, plen]; refine hK _ _ ?_; clear hK K
        refine PL.at [5, 6] (ih (64 - (k + 1)) (by omega) (k + 1) (by omega) ?_ rfl) rfl rfl
        simp_all
    · have h4 : ¬ k < 64 := by grind
      rw [if_neg (by omega)] at heq
      refine PW.exit ?_
      (repeat refine PW.seq ?_); refine PW.rg rfl fun K hK => ?_; simp (maxSteps := 3000000) (disch := omega) only [go_sem, ↓reduceIte, reduceCtorEq, pappend, plen]; refine hK _ _ ?_; clear hK K
      refine PW.ret ⟨_, rfl, Fin.base (.id' ?_ (.bool _))⟩
      rw [heq]; rfl
theorem mx_ref (m : List UInt8) (H : Heap) (hl : m.length = 64) : CallOk Tryz.prog 104 [.agg (bs m)] H (.bool (mxOk m)) H := by
  refine CallOk.body (F0 := [(0, .agg (bs m))]) Tryz.func104 rfl Tryz.ntmps104 Tryz.results104 rfl (by kernel_rfl) rfl ?_
  have hall : (bs m).all PV.cell = true := by simp [bs, PV.cell]
  (repeat refine PW.seq ?_); refine PW.rg rfl fun K hK => ?_; simp (maxSteps := 3000000) (disch := omega) only [go_sem, ↓reduceIte, reduceCtorEq, pappend, plen, hall]; refine hK _ _ ?_; clear hK K
  (repeat refine PW.seq ?_); refine PW.rg rfl fun K hK => ?_; simp (maxSteps := 3000000) (disch := omega) only [go_sem, ↓reduceIte, reduceCtorEq, pappend, plen]; refine hK _ _ ?_; clear hK K
  (repeat refine PW.seq ?_); refine PW.block (PW.loop ?_)
  suffices hloop : ∀ (k : Nat), k ≤ 64 → mxOk m = (m.drop k).all (fun b => decide (8 ≤ b.toNat)) → PL Tryz.prog _ _ [(1, .ptr H.length 0 0), (3, .int .i64 (k : Int))] (H ++ [⟨49, 0, bs m⟩]) _ by
    exact PL.at [1, 3] (hloop 0 (by omega) (by simp [mxOk])) rfl rfl
  intro k hk heq
  induction hm : 64 - k using Nat.strongRecOn generalizing k with
  | _ n ih =>
    rw [mxOk_at m k (by omega)] at heq
    refine PL.round ?_; (repeat refine PW.seq ?_); refine PW.rg rfl fun K hK => ?_; simp (maxSteps := 3000000) (disch := omega) only [go_sem, ↓reduceIte, reduceCtorEq, pappend, plen]; refine hK _ _ ?_; clear hK K
    (repeat refine PW.seq ?_); refine PW.cond (t := _) rfl (fun h => ?_) (fun h => ?_)
    · have h4 : k < 64 := by grind
      rw [if_pos (by omega)] at heq
      refine PW.skip ?_; (repeat refine PW.seq ?_); refine PW.block ?_; (repeat refine PW.seq ?_); refine PW.rg rfl fun K hK => ?_; simp (maxSteps := 3000000) (disch := omega) only [go_sem, ↓reduceIte, reduceCtorEq, pappend, plen, bs_get]; refine hK _ _ ?_; clear hK K
      (repeat refine PW.seq ?_); refine PW.cond (t := _) rfl (fun h => ?_) (fun h => ?_)
      · have h5 := of_decide_eq_true h
        (repeat refine PW.seq ?_); refine PW.rg rfl fun K hK => ?_; simp (maxSteps := 3000000) (disch := omega) only [go_sem, ↓reduceIte, reduceCtorEq, pappend, plen]; refine hK _ _ ?_; clear hK K
        refine PW.ret ⟨_, rfl, Fin.base (.id' ?_ (.bool _))⟩
        grind [slot, Nat.beq]
      · have h5 := of_decide_eq_false h
        refine PW.skip ?_
        (repeat refine PW.seq ?_); refine PW.rg rfl fun K hK => ?_; simp (maxSteps := 3000000) (disch := omega) only [go_sem, ↓reduceIte, reduceCtorEq, pappend, plen]; refine hK _ _ ?_; clear hK K
        refine PL.at [1, 3] (ih (64 - (k + 1)) (by omega) (k + 1) (by omega) ?_ rfl) rfl rfl
        simp_all
    · have h4 : ¬ k < 64 := by grind
      rw [if_neg (by omega)] at heq
      refine PW.exit ?_
      (repeat refine PW.seq ?_); refine PW.rg rfl fun K hK => ?_; simp (maxSteps := 3000000) (disch := omega) only [go_sem, ↓reduceIte, reduceCtorEq, pappend, plen]; refine hK _ _ ?_; clear hK K
      refine PW.ret ⟨_, rfl, Fin.base (.id' ?_ (.bool _))⟩
      rw [heq]; rfl

end Go.Proofs.YtbhdollgohgkgaaGreatDoor.Sc

namespace Go.Proofs.YtbhdollgohgkgaaGreatDoor.Sc
set_option linter.all false
set_option linter.unusedVariables false
set_option linter.unusedSimpArgs false
open Pm Ty Go.RowKit

def vsz (s : Sq) : Bool := mbs s.w 64 && mbs s.h 64 && (!s.il || (s.h.tmod 32 == 0))
def vrt (s : Sq) : Bool := ratOk s.num s.den && decide (1 ≤ s.num) && decide (s.num ≤ 1048576) && decide (s.den ≤ 65536)
def vbr (s : Sq) : Bool := decide (1 ≤ s.br) && decide (s.br ≤ 16777216) && decide (1 ≤ s.bf) && decide (s.bf ≤ 8388608)
def vbu (s : Sq) : Bool := decide (3 * s.den * s.br + 32 * s.num ≤ 2 * s.num * s.bf)
def vseq (s : Sq) : Bool := vsz s && (vrt s && (vbr s && (vbu s && (mxOk s.ia && mxOk s.ie))))

theorem ratOk_pos {num den : Int} (h : ratOk num den = true) : 1 ≤ den := by simp [ratOk] at h; exact h.1.1
theorem prod_bd {a b : Int} {A B : Int} (ha : 0 ≤ a) (hA : a ≤ A) (hb : 0 ≤ b) (hB : b ≤ B) : 0 ≤ a * b ∧ a * b ≤ A * B :=
  ⟨Int.mul_nonneg ha hb, Int.mul_le_mul hA hB hb (Int.le_trans ha hA)⟩

theorem vseq_ok (s : Sq) (H : Heap) (hs : SqOk s) : CallOk Tryz.prog 93 [.agg (sqc s)] H (.bool (vseq s)) H := by
  obtain ⟨hw, hh, hnum, hden, hbr, hbf, hia, hie⟩ := hs
  have hall : (bs s.ia ++ bs s.ie).all PV.cell = true := by simp [bs, PV.cell]
  refine CallOk.body (F0 := [(0, .agg (sqc s))]) Tryz.func93 rfl Tryz.ntmps93 Tryz.results93 rfl (by kernel_rfl) rfl ?_
  (repeat refine PW.seq ?_); refine PW.rg rfl fun K hK => ?_; simp (maxSteps := 3000000) (disch := omega) only [go_sem, ↓reduceIte, reduceCtorEq, pappend, plen, sqc, hall]; refine hK _ _ ?_; clear hK K
  refine PW.seq (PW.seq (PW.rgv [1] 22 (.bool (!vsz s)) rfl ?_ ?_))
  · simp (maxSteps := 3000000) (disch := omega) only [go_sem, ↓reduceIte, reduceCtorEq, pappend, plen]; (repeat' (first | ((first | refine VO_cond ?_ ?_ | refine VOd_cond ?_ ?_ | refine VOg_cond ?_ ?_ | refine VOh_cond ?_ ?_ | refine VOi_cond ?_ ?_ | refine And.intro ?_ ?_) <;> intro h <;> (try simp only [Bool.not_eq_true', Bool.not_eq_false', decide_eq_true_eq, decide_eq_false_iff_not] at h) <;> simp (maxSteps := 3000000) (disch := omega) only [go_sem, ↓reduceIte, reduceCtorEq, pappend, plen, h]) | ((first | refine VCx.call (mbs_ok _ _ _) rfl ?_ | refine VCy.call (mbs_ok _ _ _) rfl ?_ | refine VCz.call (fun _ => mbs_ok _ _ _) rfl ?_ | refine VCk.call (fun _ _ => mbs_ok _ _ _) rfl ?_ | refine VCj.now (mbs_ok _ _ _) rfl ?_); simp (maxSteps := 3000000) (disch := omega) only [go_sem, ↓reduceIte, reduceCtorEq, pappend, plen])))
    all_goals (simp_all [vsz, slot, Nat.beq] <;> first | rfl | omega | (rw [Bool.eq_iff_iff]; simp; done) | (rw [Bool.eq_iff_iff]; simp; omega))
  (repeat refine PW.seq ?_); refine PW.cond (t := _) rfl (fun h => ?_) (fun h => ?_)
  · have h1 : vsz s = false := by simpa using h
    (repeat refine PW.seq ?_); refine PW.rg rfl fun K hK => ?_; simp (maxSteps := 3000000) (disch := omega) only [go_sem, ↓reduceIte, reduceCtorEq, pappend, plen]; refine hK _ _ ?_; clear hK K
    exact PW.ret ⟨_, rfl, Fin.base (.id' (by simp [vseq, h1, slot, Nat.beq]) (.bool _))⟩
  have h1 : vsz s = true := by simpa using h
  refine PW.skip (PW.seq (PW.seq (PW.rgv [1] 44 (.bool (!vrt s)) rfl ?_ ?_)))
  · simp (maxSteps := 3000000) (disch := omega) only [go_sem, ↓reduceIte, reduceCtorEq, pappend, plen]; (repeat' (first | ((first | refine VO_cond ?_ ?_ | refine VOd_cond ?_ ?_ | refine VOg_cond ?_ ?_ | refine VOh_cond ?_ ?_ | refine VOi_cond ?_ ?_ | refine And.intro ?_ ?_) <;> intro h <;> (try simp only [Bool.not_eq_true', Bool.not_eq_false', decide_eq_true_eq, decide_eq_false_iff_not] at h) <;> simp (maxSteps := 3000000) (disch := omega) only [go_sem, ↓reduceIte, reduceCtorEq, pappend, plen, h]) | ((first | refine VCx.call (rat_ok _ _ _ hnum hden) rfl ?_ | refine VCy.call (rat_ok _ _ _ hnum hden) rfl ?_ | refine VCz.call (fun _ => rat_ok _ _ _ hnum hden) rfl ?_ | refine VCk.call (fun _ _ => rat_ok _ _ _ hnum hden) rfl ?_ | refine VCj.now (rat_ok _ _ _ hnum hden) rfl ?_); simp (maxSteps := 3000000) (disch := omega) only [go_sem, ↓reduceIte, reduceCtorEq, pappend, plen])))
    all_goals (simp_all [vrt, slot, Nat.beq] <;> first | rfl | omega | (rw [Bool.eq_iff_iff]; simp; done) | (rw [Bool.eq_iff_iff]; simp; omega))
  (repeat refine PW.seq ?_); refine PW.cond (t := _) rfl (fun h => ?_) (fun h => ?_)
  · have h2 : vrt s = false := by simpa using h
    (repeat refine PW.seq ?_); refine PW.rg rfl fun K hK => ?_; simp (maxSteps := 3000000) (disch := omega) only [go_sem, ↓reduceIte, reduceCtorEq, pappend, plen]; refine hK _ _ ?_; clear hK K
    exact PW.ret ⟨_, rfl, Fin.base (.id' (by simp [vseq, h1, h2, slot, Nat.beq]) (.bool _))⟩
  have h2 : vrt s = true := by simpa using h
  refine PW.skip (PW.seq (PW.seq (PW.rgv [1] 62 (.bool (!vbr s)) rfl ?_ ?_)))
  · simp (maxSteps := 3000000) (disch := omega) only [go_sem, ↓reduceIte, reduceCtorEq, pappend, plen]; (repeat' ((first | refine VO_cond ?_ ?_ | refine VOd_cond ?_ ?_ | refine VOg_cond ?_ ?_ | refine VOh_cond ?_ ?_ | refine VOi_cond ?_ ?_ | refine And.intro ?_ ?_) <;> intro h <;> (try simp only [Bool.not_eq_true', Bool.not_eq_false', decide_eq_true_eq, decide_eq_false_iff_not] at h) <;> simp (maxSteps := 3000000) (disch := omega) only [go_sem, ↓reduceIte, reduceCtorEq, pappend, plen, h]))
    all_goals (simp_all [vbr, slot, Nat.beq] <;> first | rfl | omega | (rw [Bool.eq_iff_iff]; simp; done) | (rw [Bool.eq_iff_iff]; simp; omega))
  (repeat refine PW.seq ?_); refine PW.cond (t := _) rfl (fun h => ?_) (fun h => ?_)
  · have h3 : vbr s = false := by simpa using h
    (repeat refine PW.seq ?_); refine PW.rg rfl fun K hK => ?_; simp (maxSteps := 3000000) (disch := omega) only [go_sem, ↓reduceIte, reduceCtorEq, pappend, plen]; refine hK _ _ ?_; clear hK K
    exact PW.ret ⟨_, rfl, Fin.base (.id' (by simp [vseq, h1, h2, h3, slot, Nat.beq]) (.bool _))⟩
  have h3 : vbr s = true := by simpa using h
  have h2' := h2
  have h3' := h3
  simp only [vrt, vbr, Bool.and_eq_true, decide_eq_true_eq] at h2' h3'
  have hdp := ratOk_pos h2'.1.1.1
  have hb1 := prod_bd (a := 2 * s.num) (b := s.bf) (A := 2097152) (B := 8388608) (by omega) (by omega) (by omega) (by omega)
  have hb2 := prod_bd (a := 3 * s.den) (b := s.br) (A := 196608) (B := 16777216) (by omega) (by omega) (by omega) (by omega)
  refine PW.skip ?_
  (repeat refine PW.seq ?_); refine PW.rg rfl fun K hK => ?_; simp (maxSteps := 3000000) (disch := omega) only [go_sem, ↓reduceIte, reduceCtorEq, pappend, plen]; refine hK _ _ ?_; clear hK K
  (repeat refine PW.seq ?_); refine PW.cond (t := _) rfl (fun h => ?_) (fun h => ?_)
  · have h4 : vbu s = false := by simp_all [vbu]
    (repeat refine PW.seq ?_); refine PW.rg rfl fun K hK => ?_; simp (maxSteps := 3000000) (disch := omega) only [go_sem, ↓reduceIte, reduceCtorEq, pappend, plen]; refine hK _ _ ?_; clear hK K
    exact PW.ret ⟨_, rfl, Fin.base (.id' (by simp [vseq, h1, h2, h3, h4, slot, Nat.beq]) (.bool _))⟩
  have h4 : vbu s = true := by simp_all [vbu]
  refine PW.skip ?_
  (repeat refine PW.seq ?_); refine PW.rg rfl fun K hK => ?_; simp (maxSteps := 3000000) (disch := omega) only [go_sem, ↓reduceIte, reduceCtorEq, pappend, plen, sq_ia, sq_ie, sq_tk, List.length_append, length_bs]; (repeat' (first | ((first | refine VO_cond ?_ ?_ | refine VOd_cond ?_ ?_ | refine VOg_cond ?_ ?_ | refine VOh_cond ?_ ?_ | refine VOi_cond ?_ ?_ | refine And.intro ?_ ?_) <;> intro h <;> (try simp only [Bool.not_eq_true', Bool.not_eq_false', decide_eq_true_eq, decide_eq_false_iff_not] at h) <;> simp (maxSteps := 3000000) (disch := omega) only [go_sem, ↓reduceIte, reduceCtorEq, pappend, plen, sq_ia, sq_ie, sq_tk, List.length_append, length_bs, h]) | ((first | refine VCx.call (mx_ok _ _ hia) rfl ?_ | refine VCx.call (mx_ok _ _ hie) rfl ?_ | refine VCy.call (mx_ok _ _ hia) rfl ?_ | refine VCy.call (mx_ok _ _ hie) rfl ?_ | refine VCz.call (fun _ => mx_ok _ _ hia) rfl ?_ | refine VCz.call (fun _ => mx_ok _ _ hie) rfl ?_ | refine VCk.call (fun _ _ => mx_ok _ _ hia) rfl ?_ | refine VCk.call (fun _ _ => mx_ok _ _ hie) rfl ?_ | refine VCj.now (mx_ok _ _ hia) rfl ?_ | refine VCj.now (mx_ok _ _ hie) rfl ?_); simp (maxSteps := 3000000) (disch := omega) only [go_sem, ↓reduceIte, reduceCtorEq, pappend, plen, sq_ia, sq_ie, sq_tk, List.length_append, length_bs])))
  all_goals (refine hK _ _ ?_; clear hK K)
  all_goals exact PW.ret ⟨_, rfl, Fin.base (.id' (by simp_all [vseq, slot, Nat.beq]) (.bool _))⟩

theorem vseq_ref (s : Sq) (H : Heap) (hs : SqOk s) : CallOk Tryz.prog 89 [.agg (sqc s)] H (.bool (vseq s)) H := by
  obtain ⟨hw, hh, hnum, hden, hbr, hbf, hia, hie⟩ := hs
  have hall : (bs s.ia ++ bs s.ie).all PV.cell = true := by simp [bs, PV.cell]
  refine CallOk.body (F0 := [(0, .agg (sqc s))]) Tryz.func89 rfl Tryz.ntmps89 Tryz.results89 rfl (by kernel_rfl) rfl ?_
  (repeat refine PW.seq ?_); refine PW.rg rfl fun K hK => ?_; simp (maxSteps := 3000000) (disch := omega) only [go_sem, ↓reduceIte, reduceCtorEq, pappend, plen, sqc, hall]; refine hK _ _ ?_; clear hK K
  refine PW.seq (PW.seq (PW.rgv [1] 42 (.bool (!vsz s)) rfl ?_ ?_))
  · simp (maxSteps := 3000000) (disch := omega) only [go_sem, ↓reduceIte, reduceCtorEq, pappend, plen]; (repeat' ((first | refine VO_cond ?_ ?_ | refine VOd_cond ?_ ?_ | refine VOg_cond ?_ ?_ | refine VOh_cond ?_ ?_ | refine VOi_cond ?_ ?_ | refine And.intro ?_ ?_) <;> intro h <;> (try simp only [Bool.not_eq_true', Bool.not_eq_false', decide_eq_true_eq, decide_eq_false_iff_not] at h) <;> simp (maxSteps := 3000000) (disch := omega) only [go_sem, ↓reduceIte, reduceCtorEq, pappend, plen, h]))
    all_goals (simp_all [vsz, mbs, slot, Nat.beq] <;> first | rfl | omega | (rw [Bool.eq_iff_iff]; simp; done) | (rw [Bool.eq_iff_iff]; simp; omega))
  (repeat refine PW.seq ?_); refine PW.cond (t := _) rfl (fun h => ?_) (fun h => ?_)
  · have h1 : vsz s = false := by simpa using h
    (repeat refine PW.seq ?_); refine PW.rg rfl fun K hK => ?_; simp (maxSteps := 3000000) (disch := omega) only [go_sem, ↓reduceIte, reduceCtorEq, pappend, plen]; refine hK _ _ ?_; clear hK K
    exact PW.ret ⟨_, rfl, Fin.base (.id' (by simp [vseq, h1, slot, Nat.beq]) (.bool _))⟩
  have h1 : vsz s = true := by simpa using h
  refine PW.skip (PW.seq (PW.seq (PW.rgv [1] 64 (.bool (!vrt s)) rfl ?_ ?_)))
  · simp (maxSteps := 3000000) (disch := omega) only [go_sem, ↓reduceIte, reduceCtorEq, pappend, plen]; (repeat' (first | ((first | refine VO_cond ?_ ?_ | refine VOd_cond ?_ ?_ | refine VOg_cond ?_ ?_ | refine VOh_cond ?_ ?_ | refine VOi_cond ?_ ?_ | refine And.intro ?_ ?_) <;> intro h <;> (try simp only [Bool.not_eq_true', Bool.not_eq_false', decide_eq_true_eq, decide_eq_false_iff_not] at h) <;> simp (maxSteps := 3000000) (disch := omega) only [go_sem, ↓reduceIte, reduceCtorEq, pappend, plen, h]) | ((first | refine VCx.call (rat_ref _ _ _ hnum hden) rfl ?_ | refine VCy.call (rat_ref _ _ _ hnum hden) rfl ?_ | refine VCz.call (fun _ => rat_ref _ _ _ hnum hden) rfl ?_ | refine VCk.call (fun _ _ => rat_ref _ _ _ hnum hden) rfl ?_ | refine VCj.now (rat_ref _ _ _ hnum hden) rfl ?_); simp (maxSteps := 3000000) (disch := omega) only [go_sem, ↓reduceIte, reduceCtorEq, pappend, plen])))
    all_goals (simp_all [vrt, slot, Nat.beq] <;> first | rfl | omega | (rw [Bool.eq_iff_iff]; simp; done) | (rw [Bool.eq_iff_iff]; simp; omega))
  (repeat refine PW.seq ?_); refine PW.cond (t := _) rfl (fun h => ?_) (fun h => ?_)
  · have h2 : vrt s = false := by simpa using h
    (repeat refine PW.seq ?_); refine PW.rg rfl fun K hK => ?_; simp (maxSteps := 3000000) (disch := omega) only [go_sem, ↓reduceIte, reduceCtorEq, pappend, plen]; refine hK _ _ ?_; clear hK K
    exact PW.ret ⟨_, rfl, Fin.base (.id' (by simp [vseq, h1, h2, slot, Nat.beq]) (.bool _))⟩
  have h2 : vrt s = true := by simpa using h
  refine PW.skip (PW.seq (PW.seq (PW.rgv [1] 82 (.bool (!vbr s)) rfl ?_ ?_)))
  · simp (maxSteps := 3000000) (disch := omega) only [go_sem, ↓reduceIte, reduceCtorEq, pappend, plen]; (repeat' ((first | refine VO_cond ?_ ?_ | refine VOd_cond ?_ ?_ | refine VOg_cond ?_ ?_ | refine VOh_cond ?_ ?_ | refine VOi_cond ?_ ?_ | refine And.intro ?_ ?_) <;> intro h <;> (try simp only [Bool.not_eq_true', Bool.not_eq_false', decide_eq_true_eq, decide_eq_false_iff_not] at h) <;> simp (maxSteps := 3000000) (disch := omega) only [go_sem, ↓reduceIte, reduceCtorEq, pappend, plen, h]))
    all_goals (simp_all [vbr, slot, Nat.beq] <;> first | rfl | omega | (rw [Bool.eq_iff_iff]; simp; done) | (rw [Bool.eq_iff_iff]; simp; omega))
  (repeat refine PW.seq ?_); refine PW.cond (t := _) rfl (fun h => ?_) (fun h => ?_)
  · have h3 : vbr s = false := by simpa using h
    (repeat refine PW.seq ?_); refine PW.rg rfl fun K hK => ?_; simp (maxSteps := 3000000) (disch := omega) only [go_sem, ↓reduceIte, reduceCtorEq, pappend, plen]; refine hK _ _ ?_; clear hK K
    exact PW.ret ⟨_, rfl, Fin.base (.id' (by simp [vseq, h1, h2, h3, slot, Nat.beq]) (.bool _))⟩
  have h3 : vbr s = true := by simpa using h
  have h2' := h2
  have h3' := h3
  simp only [vrt, vbr, Bool.and_eq_true, decide_eq_true_eq] at h2' h3'
  have hdp := ratOk_pos h2'.1.1.1
  have hb1 := prod_bd (a := 2 * s.num) (b := s.bf) (A := 2097152) (B := 8388608) (by omega) (by omega) (by omega) (by omega)
  have hb2 := prod_bd (a := 3 * s.den) (b := s.br) (A := 196608) (B := 16777216) (by omega) (by omega) (by omega) (by omega)
  refine PW.skip ?_
  (repeat refine PW.seq ?_); refine PW.rg rfl fun K hK => ?_; simp (maxSteps := 3000000) (disch := omega) only [go_sem, ↓reduceIte, reduceCtorEq, pappend, plen]; refine hK _ _ ?_; clear hK K
  (repeat refine PW.seq ?_); refine PW.cond (t := _) rfl (fun h => ?_) (fun h => ?_)
  · have h4 : vbu s = false := by simp_all [vbu]
    (repeat refine PW.seq ?_); refine PW.rg rfl fun K hK => ?_; simp (maxSteps := 3000000) (disch := omega) only [go_sem, ↓reduceIte, reduceCtorEq, pappend, plen]; refine hK _ _ ?_; clear hK K
    exact PW.ret ⟨_, rfl, Fin.base (.id' (by simp [vseq, h1, h2, h3, h4, slot, Nat.beq]) (.bool _))⟩
  have h4 : vbu s = true := by simp_all [vbu]
  refine PW.skip ?_
  (repeat refine PW.seq ?_); refine PW.rg rfl fun K hK => ?_; simp (maxSteps := 3000000) (disch := omega) only [go_sem, ↓reduceIte, reduceCtorEq, pappend, plen, sq_ia, sq_ie, sq_tk, List.length_append, length_bs]; (repeat' (first | ((first | refine VO_cond ?_ ?_ | refine VOd_cond ?_ ?_ | refine VOg_cond ?_ ?_ | refine VOh_cond ?_ ?_ | refine VOi_cond ?_ ?_ | refine And.intro ?_ ?_) <;> intro h <;> (try simp only [Bool.not_eq_true', Bool.not_eq_false', decide_eq_true_eq, decide_eq_false_iff_not] at h) <;> simp (maxSteps := 3000000) (disch := omega) only [go_sem, ↓reduceIte, reduceCtorEq, pappend, plen, sq_ia, sq_ie, sq_tk, List.length_append, length_bs, h]) | ((first | refine VCx.call (mx_ref _ _ hia) rfl ?_ | refine VCx.call (mx_ref _ _ hie) rfl ?_ | refine VCy.call (mx_ref _ _ hia) rfl ?_ | refine VCy.call (mx_ref _ _ hie) rfl ?_ | refine VCz.call (fun _ => mx_ref _ _ hia) rfl ?_ | refine VCz.call (fun _ => mx_ref _ _ hie) rfl ?_ | refine VCk.call (fun _ _ => mx_ref _ _ hia) rfl ?_ | refine VCk.call (fun _ _ => mx_ref _ _ hie) rfl ?_ | refine VCj.now (mx_ref _ _ hia) rfl ?_ | refine VCj.now (mx_ref _ _ hie) rfl ?_); simp (maxSteps := 3000000) (disch := omega) only [go_sem, ↓reduceIte, reduceCtorEq, pappend, plen, sq_ia, sq_ie, sq_tk, List.length_append, length_bs])))
  all_goals (refine hK _ _ ?_; clear hK K)
  all_goals exact PW.ret ⟨_, rfl, Fin.base (.id' (by simp_all [vseq, slot, Nat.beq]) (.bool _))⟩

/-- A picture header. -/
structure Pi where
  ty : Int
  st : Int
  od : Int
  tf : Bool
  rp : Bool
  al : Bool
def pic (h : Pi) : List PV := [.int .i64 h.ty, .int .i64 h.st, .int .i64 h.od, .bool h.tf, .bool h.rp, .bool h.al]
def codd (h : Pi) : Bool := decide (0 ≤ h.od) && decide (h.od ≤ 1023) && decide (1 ≤ h.ty) && decide (h.ty ≤ 3) && decide (1 ≤ h.st) && decide (h.st ≤ 3)
theorem codd_ok (h : Pi) (H : Heap) : CallOk Tryz.prog 81 [.agg (pic h)] H (.bool (codd h)) H := by
  obtain ⟨ty, st, od, tf, rp, al⟩ := h
  refine CallOk.body (F0 := [(0, .agg (pic ⟨ty, st, od, tf, rp, al⟩))]) Tryz.func81 rfl Tryz.ntmps81 Tryz.results81 rfl (by kernel_rfl) rfl ?_
  (repeat' (first | refine PW.seq ?_ | refine PW.skip ?_ | refine PW.block ?_ | (refine PW.rg rfl fun K hK => ?_; simp (maxSteps := 3000000) (disch := omega) only [go_sem, ↓reduceIte, reduceCtorEq, pappend, plen, pic]) | (refine PW.draw mix (by kernel_rfl) fun K hK => ?_; simp (maxSteps := 3000000) (disch := omega) only [go_sem, ↓reduceIte, reduceCtorEq, pappend, plen, pic]) | (refine PW.drawg mix (by kernel_rfl) fun K hK => ?_; simp (maxSteps := 3000000) (disch := omega) only [go_sem, ↓reduceIte, reduceCtorEq, pappend, plen, pic]) | (refine PW.drawt [] [] mix (by kernel_rfl) fun K hK => ?_; simp (maxSteps := 3000000) (disch := omega) only [go_sem, ↓reduceIte, reduceCtorEq, pappend, plen, pic]) | ((first | refine VO_cond ?_ ?_ | refine VOd_cond ?_ ?_ | refine VOg_cond ?_ ?_ | refine VOh_cond ?_ ?_ | refine VOi_cond ?_ ?_ | refine And.intro ?_ ?_) <;> intro h <;> (try simp only [Bool.not_eq_true', Bool.not_eq_false', decide_eq_true_eq, decide_eq_false_iff_not] at h) <;> simp (maxSteps := 3000000) (disch := omega) only [go_sem, ↓reduceIte, reduceCtorEq, pappend, plen, pic, h]) | (refine hK _ _ ?_; clear hK K) | (refine PW.cond (t := _) rfl (fun h => ?_) (fun h => ?_) <;> (try (cases h; done)) <;> (try simp only [Bool.not_eq_true', Bool.not_eq_false', decide_eq_true_eq, decide_eq_false_iff_not] at h))))
  all_goals ((refine PW.ret ⟨_, rfl, ?_⟩; first | refine .inl ⟨?_, rfl⟩ | refine Fin.base (.id' ?_ (.bool _)) | refine Fin.base (.id' ?_ (.int _ _))); (simp_all [codd, slot, Nat.beq] <;> first | rfl | omega | (rw [Bool.eq_iff_iff]; simp; done) | (rw [Bool.eq_iff_iff]; simp; omega)))
theorem codd_ref (h : Pi) (H : Heap) : CallOk Tryz.prog 64 [.agg (pic h)] H (.bool (codd h)) H := by
  obtain ⟨ty, st, od, tf, rp, al⟩ := h
  refine CallOk.body (F0 := [(0, .agg (pic ⟨ty, st, od, tf, rp, al⟩))]) Tryz.func64 rfl Tryz.ntmps64 Tryz.results64 rfl (by kernel_rfl) rfl ?_
  (repeat' (first | refine PW.seq ?_ | refine PW.skip ?_ | refine PW.block ?_ | (refine PW.rg rfl fun K hK => ?_; simp (maxSteps := 3000000) (disch := omega) only [go_sem, ↓reduceIte, reduceCtorEq, pappend, plen, pic]) | (refine PW.draw mix (by kernel_rfl) fun K hK => ?_; simp (maxSteps := 3000000) (disch := omega) only [go_sem, ↓reduceIte, reduceCtorEq, pappend, plen, pic]) | (refine PW.drawg mix (by kernel_rfl) fun K hK => ?_; simp (maxSteps := 3000000) (disch := omega) only [go_sem, ↓reduceIte, reduceCtorEq, pappend, plen, pic]) | (refine PW.drawt [] [] mix (by kernel_rfl) fun K hK => ?_; simp (maxSteps := 3000000) (disch := omega) only [go_sem, ↓reduceIte, reduceCtorEq, pappend, plen, pic]) | ((first | refine VO_cond ?_ ?_ | refine VOd_cond ?_ ?_ | refine VOg_cond ?_ ?_ | refine VOh_cond ?_ ?_ | refine VOi_cond ?_ ?_ | refine And.intro ?_ ?_) <;> intro h <;> (try simp only [Bool.not_eq_true', Bool.not_eq_false', decide_eq_true_eq, decide_eq_false_iff_not] at h) <;> simp (maxSteps := 3000000) (disch := omega) only [go_sem, ↓reduceIte, reduceCtorEq, pappend, plen, pic, h]) | (refine hK _ _ ?_; clear hK K) | (refine PW.cond (t := _) rfl (fun h => ?_) (fun h => ?_) <;> (try (cases h; done)) <;> (try simp only [Bool.not_eq_true', Bool.not_eq_false', decide_eq_true_eq, decide_eq_false_iff_not] at h))))
  all_goals ((refine PW.ret ⟨_, rfl, ?_⟩; first | refine .inl ⟨?_, rfl⟩ | refine Fin.base (.id' ?_ (.bool _)) | refine Fin.base (.id' ?_ (.int _ _))); (simp_all [codd, slot, Nat.beq] <;> first | rfl | omega | (rw [Bool.eq_iff_iff]; simp; done) | (rw [Bool.eq_iff_iff]; simp; omega)))
theorem vseq_h {s : Sq} (h : vseq s = true) : 16 ≤ s.h ∧ s.h ≤ 64 ∧ 16 ≤ s.w ∧ s.w ≤ 64 := by
  simp [vseq, vsz, mbs] at h
  omega
def hgt (s : Sq) (p : Pi) : Int := if p.st = 3 then s.h else s.h.tdiv 2
end Go.Proofs.YtbhdollgohgkgaaGreatDoor.Sc

namespace Go.Proofs.YtbhdollgohgkgaaGreatDoor.Lp
set_option linter.all false
set_option linter.unusedVariables false
set_option linter.unusedSimpArgs false
open Go.ChangeShapes Go.WideShapes Go.ChangeAt Go.RowKit Pm Sc

theorem own : ownKnob Tryz.prog.godebug = none := by kernel_rfl
theorem laidOut : laidOutB Tryz.prog = true := by kernel_rfl

theorem bytes_of {zs : List Int} (hw : ∀ z ∈ zs, (Lit.int .u8 z).wf = true) : ∃ p : List UInt8, zs.map (PV.int .u8) = bs p ∧ p.length = zs.length := by
  refine ⟨zs.map fun z => UInt8.ofNat z.toNat, ?_, by simp⟩
  simp only [bs, List.map_map]
  refine List.map_congr_left fun z hz => ?_
  have h1 := hw z hz
  simp [Lit.wf, IntKind.min, IntKind.max, IntKind.signed, IntKind.bits] at h1
  simp only [Function.comp, UInt8.toNat_ofNat']
  congr 1
  omega
theorem shp_bytes {ps : List PV} (h : Shp Tryz.prog 22 ps) : ∃ p : List UInt8, ps = [.slice (bs p) p.length false] := by
  obtain ⟨zs, rfl, _, hw⟩ := h.of_ints Tryz.underlying22 Tryz.underlying5
  obtain ⟨p, e, hl⟩ := bytes_of hw
  exact ⟨p, by rw [e, hl]⟩
end Go.Proofs.YtbhdollgohgkgaaGreatDoor.Lp

namespace Go.Proofs.YtbhdollgohgkgaaGreatDoor.Sc
set_option linter.all false
set_option linter.unusedVariables false
set_option linter.unusedSimpArgs false
open Pm Ty Go.RowKit

/-- The matrices have 64 numbers each. -/
structure SqL (s : Sq) : Prop where
  ia : s.ia.length = 64
  ie : s.ie.length = 64
theorem eqU_def (xs ys : List PV) : peqT Tryz.prog 11 49 (.agg xs) (.agg ys) = if szT Tryz.prog 5 = some 1 ∧ xs.length = 64 ∧ ys.length = 64 then peqI (.int .u8) xs ys else none := by kernel_rfl
theorem sz_u8 : szT Tryz.prog 5 = some 1 := by kernel_rfl
theorem eqU (p q : List UInt8) (h : p.length = 64) (h' : q.length = 64) : peqT Tryz.prog 11 49 (.agg (bs p)) (.agg (bs q)) = some (p == q) := by
  rw [eqU_def, if_pos ⟨sz_u8, by rw [length_bs]; exact h, by rw [length_bs]; exact h'⟩]
  exact peqI_bs .u8 p q (by rw [h, h'])
theorem rdU_def (xs : List PV) (off : Nat) : rd Tryz.prog 49 xs off = if off + 64 ≤ xs.length then some (.agg ((xs.drop off).take 64)) else none := by kernel_rfl
theorem sqc_len (s : Sq) (hs : SqL s) : (sqc s).length = 135 := by
  simp only [sqc, List.length_cons, List.length_append, length_bs, hs.ia, hs.ie]
theorem rdIa (s : Sq) (hs : SqL s) : rd Tryz.prog 49 (sqc s) 7 = some (.agg (bs s.ia)) := by
  rw [rdU_def, if_pos (by rw [sqc_len s hs]; omega)]
  rw [show (sqc s).drop 7 = bs s.ia ++ bs s.ie from rfl, sq_ia _ _ hs.ia]
theorem rdIe (s : Sq) (hs : SqL s) : rd Tryz.prog 49 (sqc s) 71 = some (.agg (bs s.ie)) := by
  rw [rdU_def, if_pos (by rw [sqc_len s hs]; omega)]
  rw [show (sqc s).drop 71 = (bs s.ia ++ bs s.ie).drop 64 from rfl, sq_ie _ _ hs.ia, sq_tk _ hs.ie]
def sqF (P : Program) : List Field := match P.underlying 51 with | some (.struct fs) => fs.toList | _ => []
def sqF6 (P : Program) : List Field := (sqF P).take 6
def sqF2 (P : Program) : List Field := (sqF P).drop 6
theorem peqF_ap (eq : TypeId → PV → PV → Option Bool) (P : Program) (xs ys : List PV) (s : List Field) (b : Bool) (hs : peqF eq P xs ys s = some b) : ∀ (r : List Field) (a : Bool), peqF eq P xs ys r = some a → peqF eq P xs ys (r ++ s) = some (a && b)
  | [], a, h => by
    cases h
    exact hs
  | f :: r, a, h => by
    rw [List.cons_append]
    revert h
    simp only [peqF]
    cases decide (f.name = "_") with
    | true => intro h; cases h
    | false =>
      cases rd P f.type xs f.offset with
      | none => intro h; cases h
      | some x =>
        cases rd P f.type ys f.offset with
        | none => intro h; cases h
        | some y =>
          dsimp only
          cases eq f.type x y with
          | none => intro h; cases h
          | some c =>
            dsimp only
            cases hq : peqF eq P xs ys r with
            | none => intro h; cases h
            | some q =>
              rw [peqF_ap eq P xs ys s b hs r q hq]
              intro h
              cases h
              simp [Bool.and_assoc]
def sqA (s t : Sq) : Bool := (s.w == t.w) && ((s.h == t.h) && (((s.num == t.num) && ((s.den == t.den) && true)) && ((s.il == t.il) && ((s.br == t.br) && ((s.bf == t.bf) && true)))))
/-- Are two headers equal? -/
def sqE (s t : Sq) : Bool := sqA s t && ((s.ia == t.ia) && ((s.ie == t.ie) && true))
theorem sq6 (a1 a2 a3 a4 : Int) (a5 : Bool) (a6 a7 : Int) (p q : List UInt8) (b1 b2 b3 b4 : Int) (b5 : Bool) (b6 b7 : Int) (p' q' : List UInt8) : peqF (peqT Tryz.prog 11) Tryz.prog (sqc ⟨a1, a2, a3, a4, a5, a6, a7, p, q⟩) (sqc ⟨b1, b2, b3, b4, b5, b6, b7, p', q'⟩) (sqF6 Tryz.prog) = some (sqA ⟨a1, a2, a3, a4, a5, a6, a7, p, q⟩ ⟨b1, b2, b3, b4, b5, b6, b7, p', q'⟩) := by kernel_rfl
theorem sq2_def (xs ys : List PV) (x y x' y' : PV) (b b' : Bool) (hx : rd Tryz.prog 49 xs 7 = some x) (hy : rd Tryz.prog 49 ys 7 = some y) (hb : peqT Tryz.prog 11 49 x y = some b) (hx' : rd Tryz.prog 49 xs 71 = some x') (hy' : rd Tryz.prog 49 ys 71 = some y') (hb' : peqT Tryz.prog 11 49 x' y' = some b') : peqF (peqT Tryz.prog 11) Tryz.prog xs ys (sqF2 Tryz.prog) = some (b && (b' && true)) := by
  have e : peqF (peqT Tryz.prog 11) Tryz.prog xs ys (sqF2 Tryz.prog) = match rd Tryz.prog 49 xs 7, rd Tryz.prog 49 ys 7 with
      | some a, some b => match peqT Tryz.prog 11 49 a b with
        | some c => (match rd Tryz.prog 49 xs 71, rd Tryz.prog 49 ys 71 with
          | some a, some b => match peqT Tryz.prog 11 49 a b with
            | some c => some (c && true)
            | none => none
          | _, _ => none).map fun q => c && q
        | none => none
      | _, _ => none := by kernel_rfl
  rw [e, hx, hy, hx', hy']
  simp only [hb, hb', Option.map_some]
theorem peqT_sq (xs ys : List PV) : peqT Tryz.prog 12 51 (.agg xs) (.agg ys) = peqF (peqT Tryz.prog 11) Tryz.prog xs ys ((sqF6 Tryz.prog) ++ (sqF2 Tryz.prog)) := by kernel_rfl
theorem eqSq (s t : Sq) (hs : SqL s) (ht : SqL t) : peqG Tryz.prog .eql 51 (.agg (sqc s)) (.agg (sqc t)) = some (.bool (sqE s t)) := by
  have e : ∀ x y, peqG Tryz.prog .eql 51 x y = match peqT Tryz.prog 12 51 x y with | some b => peq .eql b | none => none := fun x y => by kernel_rfl
  rw [e, peqT_sq, peqF_ap _ _ _ _ _ _ (sq2_def _ _ _ _ _ _ _ _ (rdIa s hs) (rdIa t ht) (eqU _ _ hs.ia ht.ia) (rdIe s hs) (rdIe t ht) (eqU _ _ hs.ie ht.ie)) (sqF6 Tryz.prog) (sqA s t) (sq6 ..)]
  rfl
end Go.Proofs.YtbhdollgohgkgaaGreatDoor.Sc
