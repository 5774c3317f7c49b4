/-
  Parts of the proof, put together in one text. No condition.
-/
import Derived.Test.YtahomnplappbpaaGreatDoorV15
namespace Go.Proofs.YtahomnplappbpaaGreatDoor.Sc
set_option linter.all false
set_option linter.unusedVariables false
set_option linter.unusedSimpArgs false
open Pm Ty Go.RowKit

/-- Bytes as cells. -/
def bs (p : List UInt8) : List PV := p.map fun b => .int .u8 (b.toNat : Int)
theorem length_bs (p : List UInt8) : (bs p).length = p.length := by simp [bs]
def byt (p : List UInt8) (k : Nat) : Int := ((p.getD k 0).toNat : Int)
theorem bs_get (p : List UInt8) (k : Nat) (h : k < p.length) : (bs p)[k]? = some (.int .u8 (byt p k)) := by
  simp [bs, byt, h]
theorem pbytes_bs (p : List UInt8) : pbytes (bs p) = some p := by
  unfold pbytes bs
  induction p with
  | nil => rfl
  | cons b p ih => simp [List.mapM_cons, Pm.byteOf, ih]
theorem bs_append (p q : List UInt8) : bs (p ++ q) = bs p ++ bs q := by simp [bs]
theorem bs_rep (n : Nat) : bs (List.replicate n 0) = List.replicate n (.int .u8 0) := by simp [bs]
theorem bs_scoped (n : Nat) (p : List UInt8) : ∀ x ∈ bs p, Scoped n x := fun x hx => by
  obtain ⟨b, _, rfl⟩ := List.mem_map.1 hx
  exact .int _ _
theorem sl_scoped {n k : Nat} {xs : List PV} {f : Bool} (h : ∀ x ∈ xs, Scoped n x) : Scoped n (.slice xs k f) := .slice fun j x hx => h x (List.mem_of_getElem? hx)
theorem ag_scoped {n : Nat} {xs : List PV} (h : ∀ x ∈ xs, Scoped n x) : Scoped n (.agg xs) := .agg fun j x hx => h x (List.mem_of_getElem? hx)
theorem _root_.Go.Proofs.YtahomnplappbpaaGreatDoor.Pm.Fz.id' {n : Nat} {H : Heap} {x y : PV} (e : x = y) (h : Scoped n y) : Fz n H x y := e ▸ .id (e ▸ h)
theorem bs_set (b : List UInt8) (i : Nat) (v : UInt8) : (bs b).set i (.int .u8 (v.toNat : Int)) = bs (b.set i v) := by
  simp [bs, List.map_set]
theorem bs_drop (p : List UInt8) (k : Nat) : (bs p).drop k = bs (p.drop k) := by simp [bs]
theorem bs_take (p : List UInt8) (k : Nat) : (bs p).take k = bs (p.take k) := by simp [bs]
theorem tdiv_abs (a b : Int) : -(a.natAbs : Int) ≤ a.tdiv b ∧ a.tdiv b ≤ (a.natAbs : Int) := by
  have h : (a.tdiv b).natAbs ≤ a.natAbs := by rw [Int.natAbs_tdiv]; exact Nat.div_le_self _ _
  omega
/-- A quotient does not wrap. -/
theorem wq64 (a b : Int) (h : -9223372036854775807 ≤ a ∧ a ≤ 9223372036854775807) : IntKind.i64.wrap (a.tdiv b) = a.tdiv b := by
  have := tdiv_abs a b
  exact w64 _ (by omega)
theorem tmodN (x y : Nat) : (x : Int).tmod (y : Int) = ((x % y : Nat) : Int) := by rw [Int.tmod_eq_emod_of_nonneg (by omega)]; rfl
theorem tdiv_pos (a b : Int) (h : 0 ≤ a) : a.tdiv b = a / b := Int.tdiv_eq_ediv_of_nonneg h
theorem tmod_pos (a b : Int) (h : 0 ≤ a) : a.tmod b = a % b := Int.tmod_eq_emod_of_nonneg h

theorem wu64 (n : Int) (h : 0 ≤ n ∧ n ≤ 18446744073709551615) : IntKind.u64.wrap n = n := by
  simp only [IntKind.wrap, IntKind.bits, IntKind.signed, Bool.false_and, Bool.false_eq_true, if_false]
  omega
theorem wu64n (n : Int) (h : -18446744073709551616 ≤ n ∧ n < 0) : IntKind.u64.wrap n = n + 18446744073709551616 := by
  simp only [IntKind.wrap, IntKind.bits, IntKind.signed, Bool.false_and, Bool.false_eq_true, if_false]
  omega

/-- A list of ints as cells. -/
def is (l : List Int) : List PV := l.map fun n => .int .i64 n
/-- A list of flags as cells. -/
def fs (l : List Bool) : List PV := l.map fun b => .bool b
/-! ### shifts and bits -/
end Go.Proofs.YtahomnplappbpaaGreatDoor.Sc

namespace Go.Proofs.YtahomnplappbpaaGreatDoor.Sc
set_option linter.all false
set_option linter.unusedVariables false
set_option linter.unusedSimpArgs false
open Pm Ty Go.RowKit

def mbs (n most : Int) : Bool := decide (16 ≤ n) && decide (n ≤ most) && (n.tmod 16 == 0)
theorem mbs_ok (n most : Int) (H : Heap) : CallOk Tryz.prog 241 [.int .i64 n, .int .i64 most] H (.bool (mbs n most)) H := by
  refine CallOk.body (F0 := [(0, .int .i64 n), (1, .int .i64 most)]) Tryz.func241 rfl Tryz.ntmps241 Tryz.results241 rfl (by kernel_rfl) rfl ?_
  (repeat refine PW.seq ?_); refine PW.rg rfl fun K hK => ?_; simp (disch := omega) only [go_sem, ↓reduceIte, reduceCtorEq, pappend, plen]; refine hK _ _ ?_; clear hK K
  (repeat refine PW.seq ?_); refine PW.rg rfl fun K hK => ?_; simp (disch := omega) only [go_sem, ↓reduceIte, reduceCtorEq, pappend, plen]; (repeat' ((first | refine VO_cond ?_ ?_ | refine VOd_cond ?_ ?_ | refine VOg_cond ?_ ?_ | refine VOh_cond ?_ ?_ | refine VOi_cond ?_ ?_ | refine And.intro ?_ ?_) <;> intro h <;> (try simp only [Bool.not_eq_true', Bool.not_eq_false', decide_eq_true_eq, decide_eq_false_iff_not] at h) <;> simp (disch := omega) only [go_sem, ↓reduceIte, reduceCtorEq, pappend, plen, h]))
  all_goals (refine hK _ _ ?_; clear hK K)
  all_goals (refine PW.ret ⟨_, rfl, .inl ⟨?_, rfl⟩⟩; simp_all [mbs, slot, Nat.beq]; try omega)

theorem gcd_ok (x y : Nat) (H : Heap) : CallOk Tryz.prog 272 [.int .u64 (x : Int), .int .u64 (y : Int)] H (.int .u64 (Nat.gcd x y : Int)) H := by
  generalize hr : Nat.gcd x y = r
  refine CallOk.body (F0 := [(0, .int .u64 (x : Int)), (1, .int .u64 (y : Int))]) Tryz.func272 rfl Tryz.ntmps272 Tryz.results272 rfl (by kernel_rfl) rfl ?_
  (repeat refine PW.seq ?_); refine PW.rg rfl fun K hK => ?_; simp (disch := omega) only [go_sem, ↓reduceIte, reduceCtorEq, pappend, plen]; refine hK _ _ ?_; clear hK K
  (repeat refine PW.seq ?_); refine PW.block (PW.loop ?_)
  refine PL.at [0, 1] (?_ : PL _ _ _ [(0, .int .u64 (x : Int)), (1, .int .u64 (y : Int))] H _) rfl rfl
  induction hm : y using Nat.strongRecOn generalizing x y with
  | _ n ih =>
    subst hm
    refine PL.round ?_; (repeat refine PW.seq ?_); refine PW.rg rfl fun K hK => ?_; simp (disch := omega) only [go_sem, ↓reduceIte, reduceCtorEq, pappend, plen]; refine hK _ _ ?_; clear hK K
    (repeat refine PW.seq ?_); refine PW.cond (t := _) rfl (fun h => ?_) (fun h => ?_)
    · have hy : y ≠ 0 := by intro e; subst e; simp at h
      refine PW.skip ?_; (repeat refine PW.seq ?_); refine PW.block ?_; (repeat refine PW.seq ?_); refine PW.draw mix (by kernel_rfl) fun K hK => ?_; simp (disch := omega) only [go_sem, ↓reduceIte, reduceCtorEq, pappend, plen, tmodN]; refine hK _ _ ?_; clear hK K
      exact PL.at [0, 1] (ih (x % y) (Nat.mod_lt _ (by omega)) y (x % y) (by rw [← hr, Nat.gcd_comm x y, Nat.gcd_rec y x, Nat.gcd_comm]) rfl) rfl rfl
    · have hy : y = 0 := by simpa using h
      subst hy
      refine PW.exit ?_
      (repeat refine PW.seq ?_); refine PW.rg rfl fun K hK => ?_; simp (disch := omega) only [go_sem, ↓reduceIte, reduceCtorEq, pappend, plen]; refine hK _ _ ?_; clear hK K
      exact PW.ret ⟨_, rfl, .inl ⟨by rw [← hr, Nat.gcd_zero_right]; rfl, rfl⟩⟩
theorem gcd_ref (x y : Nat) (H : Heap) : CallOk Tryz.prog 186 [.int .u64 (x : Int), .int .u64 (y : Int)] H (.int .u64 (Nat.gcd x y : Int)) H := by
  generalize hr : Nat.gcd x y = r
  refine CallOk.body (F0 := [(0, .int .u64 (x : Int)), (1, .int .u64 (y : Int))]) Tryz.func186 rfl Tryz.ntmps186 Tryz.results186 rfl (by kernel_rfl) rfl ?_
  (repeat refine PW.seq ?_); refine PW.rg rfl fun K hK => ?_; simp (disch := omega) only [go_sem, ↓reduceIte, reduceCtorEq, pappend, plen]; refine hK _ _ ?_; clear hK K
  (repeat refine PW.seq ?_); refine PW.block (PW.loop ?_)
  refine PL.at [0, 1] (?_ : PL _ _ _ [(0, .int .u64 (x : Int)), (1, .int .u64 (y : Int))] H _) rfl rfl
  induction hm : y using Nat.strongRecOn generalizing x y with
  | _ n ih =>
    subst hm
    refine PL.round ?_; (repeat refine PW.seq ?_); refine PW.rg rfl fun K hK => ?_; simp (disch := omega) only [go_sem, ↓reduceIte, reduceCtorEq, pappend, plen]; refine hK _ _ ?_; clear hK K
    (repeat refine PW.seq ?_); refine PW.cond (t := _) rfl (fun h => ?_) (fun h => ?_)
    · have hy : y ≠ 0 := by intro e; subst e; simp at h
      refine PW.skip ?_; (repeat refine PW.seq ?_); refine PW.block ?_; (repeat refine PW.seq ?_); refine PW.draw mix (by kernel_rfl) fun K hK => ?_; simp (disch := omega) only [go_sem, ↓reduceIte, reduceCtorEq, pappend, plen, tmodN]; refine hK _ _ ?_; clear hK K
      exact PL.at [0, 1] (ih (x % y) (Nat.mod_lt _ (by omega)) y (x % y) (by rw [← hr, Nat.gcd_comm x y, Nat.gcd_rec y x, Nat.gcd_comm]) rfl) rfl rfl
    · have hy : y = 0 := by simpa using h
      subst hy
      refine PW.exit ?_
      (repeat refine PW.seq ?_); refine PW.rg rfl fun K hK => ?_; simp (disch := omega) only [go_sem, ↓reduceIte, reduceCtorEq, pappend, plen]; refine hK _ _ ?_; clear hK K
      exact PW.ret ⟨_, rfl, .inl ⟨by rw [← hr, Nat.gcd_zero_right]; rfl, rfl⟩⟩
theorem magn_ok (n : Int) (H : Heap) (hn : -9223372036854775808 ≤ n ∧ n ≤ 9223372036854775807) : CallOk Tryz.prog 273 [.int .i64 n] H (.int .u64 (n.natAbs : Int)) H := by
  refine CallOk.body (F0 := [(0, .int .i64 n)]) Tryz.func273 rfl Tryz.ntmps273 Tryz.results273 rfl (by kernel_rfl) rfl ?_
  (repeat refine PW.seq ?_); refine PW.rg rfl fun K hK => ?_; simp (disch := omega) only [go_sem, ↓reduceIte, reduceCtorEq, pappend, plen]; refine hK _ _ ?_; clear hK K
  (repeat refine PW.seq ?_); refine PW.rg rfl fun K hK => ?_; simp (disch := omega) only [go_sem, ↓reduceIte, reduceCtorEq, pappend, plen]; refine hK _ _ ?_; clear hK K
  (repeat refine PW.seq ?_); refine PW.cond (t := _) rfl (fun h => ?_) (fun h => ?_)
  · have h1 := of_decide_eq_true h
    (repeat refine PW.seq ?_); refine PW.rg rfl fun K hK => ?_; simp (disch := omega) only [go_sem, ↓reduceIte, reduceCtorEq, pappend, plen, wu64n]; refine hK _ _ ?_; clear hK K
    refine PW.ret ⟨_, rfl, .inl ⟨?_, rfl⟩⟩
    have e : (n.natAbs : Int) = 0 - (n + 18446744073709551616) + 18446744073709551616 := by omega
    rw [e]; rfl
  · have h1 := of_decide_eq_false h
    refine PW.skip ?_
    (repeat refine PW.seq ?_); refine PW.rg rfl fun K hK => ?_; simp (disch := omega) only [go_sem, ↓reduceIte, reduceCtorEq, pappend, plen, wu64]; refine hK _ _ ?_; clear hK K
    refine PW.ret ⟨_, rfl, .inl ⟨?_, rfl⟩⟩
    have e : (n.natAbs : Int) = n := by omega
    rw [e]; rfl
theorem magn_ref (n : Int) (H : Heap) (hn : -9223372036854775808 ≤ n ∧ n ≤ 9223372036854775807) : CallOk Tryz.prog 187 [.int .i64 n] H (.int .u64 (n.natAbs : Int)) H := by
  refine CallOk.body (F0 := [(0, .int .i64 n)]) Tryz.func187 rfl Tryz.ntmps187 Tryz.results187 rfl (by kernel_rfl) rfl ?_
  (repeat refine PW.seq ?_); refine PW.rg rfl fun K hK => ?_; simp (disch := omega) only [go_sem, ↓reduceIte, reduceCtorEq, pappend, plen]; refine hK _ _ ?_; clear hK K
  (repeat refine PW.seq ?_); refine PW.rg rfl fun K hK => ?_; simp (disch := omega) only [go_sem, ↓reduceIte, reduceCtorEq, pappend, plen]; refine hK _ _ ?_; clear hK K
  (repeat refine PW.seq ?_); refine PW.cond (t := _) rfl (fun h => ?_) (fun h => ?_)
  · have h1 := of_decide_eq_true h
    (repeat refine PW.seq ?_); refine PW.rg rfl fun K hK => ?_; simp (disch := omega) only [go_sem, ↓reduceIte, reduceCtorEq, pappend, plen, wu64]; refine hK _ _ ?_; clear hK K
    refine PW.ret ⟨_, rfl, .inl ⟨?_, rfl⟩⟩
    have e : (n.natAbs : Int) = 0 - (n + 1) + 1 := by omega
    rw [e]; rfl
  · have h1 := of_decide_eq_false h
    refine PW.skip ?_
    (repeat refine PW.seq ?_); refine PW.rg rfl fun K hK => ?_; simp (disch := omega) only [go_sem, ↓reduceIte, reduceCtorEq, pappend, plen, wu64]; refine hK _ _ ?_; clear hK K
    refine PW.ret ⟨_, rfl, .inl ⟨?_, rfl⟩⟩
    have e : (n.natAbs : Int) = n := by omega
    rw [e]; rfl

def ratOk (num den : Int) : Bool := decide (1 ≤ den) && decide (-9223372036854775808 < num) && (Nat.gcd num.natAbs den.natAbs == 1)
theorem rat_ok (num den : Int) (H : Heap) (hn : -9223372036854775808 ≤ num ∧ num ≤ 9223372036854775807) (hd : -9223372036854775808 ≤ den ∧ den ≤ 9223372036854775807) :
    CallOk Tryz.prog 242 [.agg [.int .i64 num, .int .i64 den]] H (.bool (ratOk num den)) H := by
  generalize hr : ratOk num den = r
  refine CallOk.body (F0 := [(0, .agg [.int .i64 num, .int .i64 den])]) Tryz.func242 rfl Tryz.ntmps242 Tryz.results242 rfl (by kernel_rfl) rfl ?_
  (repeat refine PW.seq ?_); refine PW.rg rfl fun K hK => ?_; simp (disch := omega) only [go_sem, ↓reduceIte, reduceCtorEq, pappend, plen]; refine hK _ _ ?_; clear hK K
  (repeat refine PW.seq ?_); refine PW.draw mix (by kernel_rfl) fun K hK => ?_; simp (disch := omega) only [go_sem, ↓reduceIte, reduceCtorEq, pappend, plen, wu64]; (repeat' ((first | refine VO_cond ?_ ?_ | refine VOd_cond ?_ ?_ | refine VOg_cond ?_ ?_ | refine VOh_cond ?_ ?_ | refine VOi_cond ?_ ?_ | refine And.intro ?_ ?_) <;> intro h <;> (try simp only [Bool.not_eq_true', Bool.not_eq_false', decide_eq_true_eq, decide_eq_false_iff_not] at h) <;> simp (disch := omega) only [go_sem, ↓reduceIte, reduceCtorEq, pappend, plen, wu64, h]))
  · rename_i h1
    have e : den = ((den.natAbs : Nat) : Int) := by omega
    have hg := gcd_ok num.natAbs den.natAbs (H ++ [⟨35, 0, [.int .i64 num, .int .i64 den]⟩])
    rw [← e] at hg
    refine VCy.call (magn_ok _ _ hn) rfl ?_; simp (disch := omega) only [go_sem, ↓reduceIte, reduceCtorEq, pappend, plen, wu64]; refine VCy.call (hg) rfl ?_; simp (disch := omega) only [go_sem, ↓reduceIte, reduceCtorEq, pappend, plen]
    refine hK _ _ ?_; clear hK K
    refine PW.ret ⟨_, rfl, Fin.base (.id' ?_ (.bool _))⟩
    rw [← hr]
    simp [ratOk, slot, Nat.beq, h, h1]
    rw [Bool.eq_iff_iff]; simp; omega
  all_goals (refine hK _ _ ?_; clear hK K)
  all_goals (refine PW.ret ⟨_, rfl, Fin.base (.id' ?_ (.bool _))⟩; rw [← hr]; simp_all [ratOk, slot, Nat.beq]; try omega)
theorem rat_ref (num den : Int) (H : Heap) (hn : -9223372036854775808 ≤ num ∧ num ≤ 9223372036854775807) (hd : -9223372036854775808 ≤ den ∧ den ≤ 9223372036854775807) :
    CallOk Tryz.prog 112 [.agg [.int .i64 num, .int .i64 den]] H (.bool (ratOk num den)) H := by
  generalize hr : ratOk num den = r
  refine CallOk.body (F0 := [(0, .agg [.int .i64 num, .int .i64 den])]) Tryz.func112 rfl Tryz.ntmps112 Tryz.results112 rfl (by kernel_rfl) rfl ?_
  (repeat refine PW.seq ?_); refine PW.rg rfl fun K hK => ?_; simp (disch := omega) only [go_sem, ↓reduceIte, reduceCtorEq, pappend, plen]; refine hK _ _ ?_; clear hK K
  (repeat refine PW.seq ?_); refine PW.draw mix (by kernel_rfl) fun K hK => ?_; simp (disch := omega) only [go_sem, ↓reduceIte, reduceCtorEq, pappend, plen, wu64]; (repeat' ((first | refine VO_cond ?_ ?_ | refine VOd_cond ?_ ?_ | refine VOg_cond ?_ ?_ | refine VOh_cond ?_ ?_ | refine VOi_cond ?_ ?_ | refine And.intro ?_ ?_) <;> intro h <;> (try simp only [Bool.not_eq_true', Bool.not_eq_false', decide_eq_true_eq, decide_eq_false_iff_not] at h) <;> simp (disch := omega) only [go_sem, ↓reduceIte, reduceCtorEq, pappend, plen, wu64, h]))
  · rename_i h1
    have e : den = ((den.natAbs : Nat) : Int) := by omega
    have hg := gcd_ref num.natAbs den.natAbs (H ++ [⟨35, 0, [.int .i64 num, .int .i64 den]⟩])
    rw [← e] at hg
    refine VCy.call (magn_ref _ _ hn) rfl ?_; simp (disch := omega) only [go_sem, ↓reduceIte, reduceCtorEq, pappend, plen, wu64]; refine VCy.call (hg) rfl ?_; simp (disch := omega) only [go_sem, ↓reduceIte, reduceCtorEq, pappend, plen]
    refine hK _ _ ?_; clear hK K
    refine PW.ret ⟨_, rfl, Fin.base (.id' ?_ (.bool _))⟩
    rw [← hr]
    have h2 : -9223372036854775808 < num := by omega
    simp [ratOk, slot, Nat.beq, h, h1, h2]
    rw [Bool.eq_iff_iff]; simp; omega
  all_goals (refine hK _ _ ?_; clear hK K)
  all_goals (refine PW.ret ⟨_, rfl, Fin.base (.id' ?_ (.bool _))⟩; rw [← hr]; clear hr)
  · have h2 : ¬ -9223372036854775808 < num := by omega
    simp [ratOk, slot, Nat.beq, h2]
  · simp_all [ratOk, slot, Nat.beq]; try omega

/-- A sequence header. -/
structure Sq where
  w : Int
  h : Int
  num : Int
  den : Int
  il : Bool
  br : Int
  bf : Int
  ia : List UInt8
  ie : List UInt8
def sqc (s : Sq) : List PV := .int .i64 s.w :: .int .i64 s.h :: .int .i64 s.num :: .int .i64 s.den :: .bool s.il :: .int .i64 s.br :: .int .i64 s.bf :: (bs s.ia ++ bs s.ie)
structure SqOk (s : Sq) : Prop where
  w : -9223372036854775808 ≤ s.w ∧ s.w ≤ 9223372036854775807
  h : -9223372036854775808 ≤ s.h ∧ s.h ≤ 9223372036854775807
  num : -9223372036854775808 ≤ s.num ∧ s.num ≤ 9223372036854775807
  den : -9223372036854775808 ≤ s.den ∧ s.den ≤ 9223372036854775807
  br : -9223372036854775808 ≤ s.br ∧ s.br ≤ 9223372036854775807
  bf : -9223372036854775808 ≤ s.bf ∧ s.bf ≤ 9223372036854775807
  ia : s.ia.length = 64
  ie : s.ie.length = 64
theorem sqc_scoped (n : Nat) (s : Sq) : ∀ x ∈ sqc s, Scoped n x := fun x hx => by
  simp only [sqc, List.mem_cons, List.mem_append] at hx
  rcases hx with rfl | rfl | rfl | rfl | rfl | rfl | rfl | hx | hx
  all_goals first | exact .int _ _ | exact .bool _ | exact bs_scoped n _ x hx
theorem sq_ia (p q : List UInt8) (h : p.length = 64) : (bs p ++ bs q).take 64 = bs p := by
  rw [List.take_append_of_le_length (by rw [length_bs]; omega), List.take_of_length_le (by rw [length_bs]; omega)]
theorem sq_ie (p q : List UInt8) (h : p.length = 64) : (bs p ++ bs q).drop 64 = bs q := by
  rw [List.drop_append_of_le_length (by rw [length_bs]; omega), List.drop_of_length_le (by rw [length_bs]; omega), List.nil_append]
theorem sq_tk (q : List UInt8) (h : q.length = 64) : (bs q).take 64 = bs q := List.take_of_length_le (by rw [length_bs]; omega)

theorem sq_all (p q : List UInt8) (h : p.length = 64) (h' : q.length = 64) : (bs p ++ bs q).take 128 = bs p ++ bs q := List.take_of_length_le (by rw [List.length_append, length_bs, length_bs]; omega)
def mxOk (m : List UInt8) : Bool := m.all fun b => decide (8 ≤ b.toNat)
theorem mxOk_at (m : List UInt8) (k : Nat) (hk : k ≤ m.length) : (m.drop k).all (fun b => decide (8 ≤ b.toNat)) = if k < m.length then decide (8 ≤ byt m k) && (m.drop (k + 1)).all (fun b => decide (8 ≤ b.toNat)) else true := by
  split
  · rename_i h
    rw [List.drop_eq_getElem_cons h, List.all_cons]
    congr 1
    simp [byt, h]
    omega
  · rw [List.drop_of_length_le (by omega)]; rfl
theorem mx_ok (m : List UInt8) (H : Heap) (hl : m.length = 64) : CallOk Tryz.prog 77 [.agg (bs m)] H (.bool (mxOk m)) H := by
  refine CallOk.body (F0 := [(0, .agg (bs m))]) Tryz.func77 rfl Tryz.ntmps77 Tryz.results77 rfl (by kernel_rfl) rfl ?_
  have hall : (bs m).all PV.cell = true := by simp [bs, PV.cell]
  (repeat refine PW.seq ?_); refine PW.rg rfl fun K hK => ?_; simp (disch := omega) only [go_sem, ↓reduceIte, reduceCtorEq, pappend, plen, hall]; refine hK _ _ ?_; clear hK K
  (repeat refine PW.seq ?_); refine PW.rg rfl fun K hK => ?_; simp (disch := omega) only [go_sem, ↓reduceIte, reduceCtorEq, pappend, plen, length_bs, sq_tk]; refine hK _ _ ?_; clear hK K
  (repeat refine PW.seq ?_); refine PW.block (PW.loop ?_)
  suffices hloop : ∀ (k : Nat), k ≤ 64 → mxOk m = (m.drop k).all (fun b => decide (8 ≤ b.toNat)) → PL Tryz.prog _ _ [(5, .agg (bs m)), (6, .int .i64 (k : Int))] (H ++ [⟨36, 0, bs m⟩]) _ by
    exact PL.at [5, 6] (hloop 0 (by omega) (by simp [mxOk])) rfl rfl
  intro k hk heq
  induction hm : 64 - k using Nat.strongRecOn generalizing k with
  | _ n ih =>
    rw [mxOk_at m k (by omega)] at heq
    refine PL.round ?_; (repeat refine PW.seq ?_); refine PW.rg rfl fun K hK => ?_; simp (disch := omega) only [go_sem, ↓reduceIte, reduceCtorEq, pappend, plen]; refine hK _ _ ?_; clear hK K
    (repeat refine PW.seq ?_); refine PW.cond (t := _) rfl (fun h => ?_) (fun h => ?_)
    · have h4 : k < 64 := by have := of_decide_eq_true h; omega
      rw [if_pos (by omega)] at heq
      refine PW.skip ?_; (repeat refine PW.seq ?_); refine PW.block ?_
      (repeat refine PW.seq ?_); refine PW.rg rfl fun K hK => ?_; simp (disch := omega) only [go_sem, ↓reduceIte, reduceCtorEq, pappend, plen, bs_get]; refine hK _ _ ?_; clear hK K
      (repeat refine PW.seq ?_); refine PW.rg rfl fun K hK => ?_; simp (disch := omega) only [go_sem, ↓reduceIte, reduceCtorEq, pappend, plen]; refine hK _ _ ?_; clear hK K
      (repeat refine PW.seq ?_); refine PW.cond (t := _) rfl (fun h => ?_) (fun h => ?_)
      · have h5 := of_decide_eq_true h
        (repeat refine PW.seq ?_); refine PW.rg rfl fun K hK => ?_; simp (disch := omega) only [go_sem, ↓reduceIte, reduceCtorEq, pappend, plen]; refine hK _ _ ?_; clear hK K
        refine PW.ret ⟨_, rfl, Fin.base (.id' ?_ (.bool _))⟩
        rw [heq]
        simp [slot, Nat.beq]; omega
      · have h5 := of_decide_eq_false h
        refine PW.skip ?_
        (repeat refine PW.seq ?_); refine PW.rg rfl fun K hK => ?_; simp (disch := omega) only [go_sem, ↓reduceIte, reduceCtorEq, pappend, plen]; refine hK _ _ ?_; clear hK K
        refine PL.at [5, 6] (ih (64 - (k + 1)) (by omega) (k + 1) (by omega) ?_ rfl) rfl rfl
        rw [heq]; simp; omega
    · have h4 : ¬ k < 64 := by have := of_decide_eq_false h; omega
      rw [if_neg (by omega)] at heq
      refine PW.exit ?_
      (repeat refine PW.seq ?_); refine PW.rg rfl fun K hK => ?_; simp (disch := omega) only [go_sem, ↓reduceIte, reduceCtorEq, pappend, plen]; refine hK _ _ ?_; clear hK K
      refine PW.ret ⟨_, rfl, Fin.base (.id' ?_ (.bool _))⟩
      rw [heq]; rfl
theorem mx_ref (m : List UInt8) (H : Heap) (hl : m.length = 64) : CallOk Tryz.prog 35 [.agg (bs m)] H (.bool (mxOk m)) H := by
  refine CallOk.body (F0 := [(0, .agg (bs m))]) Tryz.func35 rfl Tryz.ntmps35 Tryz.results35 rfl (by kernel_rfl) rfl ?_
  have hall : (bs m).all PV.cell = true := by simp [bs, PV.cell]
  (repeat refine PW.seq ?_); refine PW.rg rfl fun K hK => ?_; simp (disch := omega) only [go_sem, ↓reduceIte, reduceCtorEq, pappend, plen, hall]; refine hK _ _ ?_; clear hK K
  (repeat refine PW.seq ?_); refine PW.rg rfl fun K hK => ?_; simp (disch := omega) only [go_sem, ↓reduceIte, reduceCtorEq, pappend, plen]; refine hK _ _ ?_; clear hK K
  (repeat refine PW.seq ?_); refine PW.block (PW.loop ?_)
  suffices hloop : ∀ (k : Nat), k ≤ 64 → mxOk m = (m.drop k).all (fun b => decide (8 ≤ b.toNat)) → PL Tryz.prog _ _ [(1, .ptr H.length 0 0), (3, .int .i64 (k : Int))] (H ++ [⟨36, 0, bs m⟩]) _ by
    exact PL.at [1, 3] (hloop 0 (by omega) (by simp [mxOk])) rfl rfl
  intro k hk heq
  induction hm : 64 - k using Nat.strongRecOn generalizing k with
  | _ n ih =>
    rw [mxOk_at m k (by omega)] at heq
    refine PL.round ?_; (repeat refine PW.seq ?_); refine PW.rg rfl fun K hK => ?_; simp (disch := omega) only [go_sem, ↓reduceIte, reduceCtorEq, pappend, plen]; refine hK _ _ ?_; clear hK K
    (repeat refine PW.seq ?_); refine PW.cond (t := _) rfl (fun h => ?_) (fun h => ?_)
    · have h4 : k < 64 := by have := of_decide_eq_true h; omega
      rw [if_pos (by omega)] at heq
      refine PW.skip ?_; (repeat refine PW.seq ?_); refine PW.block ?_; (repeat refine PW.seq ?_); refine PW.rg rfl fun K hK => ?_; simp (disch := omega) only [go_sem, ↓reduceIte, reduceCtorEq, pappend, plen, bs_get]; refine hK _ _ ?_; clear hK K
      (repeat refine PW.seq ?_); refine PW.cond (t := _) rfl (fun h => ?_) (fun h => ?_)
      · have h5 := of_decide_eq_true h
        (repeat refine PW.seq ?_); refine PW.rg rfl fun K hK => ?_; simp (disch := omega) only [go_sem, ↓reduceIte, reduceCtorEq, pappend, plen]; refine hK _ _ ?_; clear hK K
        refine PW.ret ⟨_, rfl, Fin.base (.id' ?_ (.bool _))⟩
        rw [heq]
        simp [slot, Nat.beq]; omega
      · have h5 := of_decide_eq_false h
        refine PW.skip ?_
        (repeat refine PW.seq ?_); refine PW.rg rfl fun K hK => ?_; simp (disch := omega) only [go_sem, ↓reduceIte, reduceCtorEq, pappend, plen]; refine hK _ _ ?_; clear hK K
        refine PL.at [1, 3] (ih (64 - (k + 1)) (by omega) (k + 1) (by omega) ?_ rfl) rfl rfl
        rw [heq]; simp; omega
    · have h4 : ¬ k < 64 := by have := of_decide_eq_false h; omega
      rw [if_neg (by omega)] at heq
      refine PW.exit ?_
      (repeat refine PW.seq ?_); refine PW.rg rfl fun K hK => ?_; simp (disch := omega) only [go_sem, ↓reduceIte, reduceCtorEq, pappend, plen]; refine hK _ _ ?_; clear hK K
      refine PW.ret ⟨_, rfl, Fin.base (.id' ?_ (.bool _))⟩
      rw [heq]; rfl

end Go.Proofs.YtahomnplappbpaaGreatDoor.Sc
