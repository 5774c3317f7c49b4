/-
  Contracts of the reference of chapter 2: the reader.
-/
import Derived.Test.YtcabpncdgagihaaBo
namespace Go.Proofs.Ytcabpncdgagihaa.Sc
set_option linter.all false
set_option linter.unusedVariables false
set_option linter.unusedSimpArgs false
open Pm Ty Go.RowKit

/-- What a call leaves behind beyond the heap is lost; its value given up. -/
theorem _root_.Go.Proofs.Ytcabpncdgagihaa.Pm.CallOk.lose {P : Program} {H : Heap} {f : FuncId} {args : List PV} {v v' : PV} {K : Heap} (h : CallOk P f args H v (H ++ K)) (hz : Fz H.length (H ++ K) v v') : CallOk P f args H v' H :=
  ⟨h.1, fun C us w hw hu => (h.2 C us w hw hu).mono fun e w' ⟨C', u, q1, q2, q3, q4, q5⟩ => by
    obtain ⟨g1, g2⟩ := WRel.give hw q1 q2
    exact ⟨_, u, g1, g2, q3, q4, Fz.sound q2 hz q5⟩⟩

theorem bits_refF (V n : Nat) (H : Heap) (hn : n ≤ 32) : CallOk Try.prog 82 [.int .u32 (V : Int), .int .i64 (n : Int)] H (.slice (bs (zb (vbits V n))) n false) H :=
  (bits_ref V n H hn).lose (Fz.mslC (e := 5) (xs := bs (zb (vbits V n))) (Nat.le_refl _) (by simp) (by simp [length_bs, zb_len, vbits_len]) (FzC.refl (bs_scoped _ _)))

/-- All bits of some bytes. -/
def bl (q : List UInt8) : List Bool := (List.range (8 * q.length)).map fun k => decide (ubit q k = 1)
theorem bl_len (q : List UInt8) : (bl q).length = 8 * q.length := by simp [bl]
theorem bl_bn (q : List UInt8) (k : Nat) (h : k < 8 * q.length) : bn (bl q) k = ubit q k := by
  have := ubit_lt q k
  simp [bn, bl, h]
  have : ubit q k = 0 ∨ ubit q k = 1 := by omega
  rcases this with e | e <;> simp [e]
theorem bl_get (q : List UInt8) (k : Nat) (h : k < 8 * q.length) : (bs (zb (bl q)))[k]? = some (.int .u8 (ubit q k : Int)) := by
  rw [bs_get _ _ (by rw [zb_len, bl_len]; exact h), zb_byt _ _ (by rw [bl_len]; exact h), bl_bn q k h]
theorem bl_take (q : List UInt8) (k : Nat) (h : k < q.length) : bl (q.take (k + 1)) = bl (q.take k) ++ vbits (q.getD k 0).toNat 8 := by
  apply List.ext_getElem?
  intro j
  have h1 : (q.take (k + 1)).length = k + 1 := by simp; omega
  have h2 : (q.take k).length = k := by simp; omega
  by_cases hj : j < 8 * k
  · rw [List.getElem?_append_left (by rw [bl_len, h2]; exact hj)]
    simp only [bl, List.getElem?_map]
    rw [List.getElem?_range (by omega), List.getElem?_range (by omega)]
    simp only [Option.map_some, ubit, List.getD, List.getElem?_take]
    rw [if_pos (by omega), if_pos (by omega)]
  · by_cases hj2 : j < 8 * (k + 1)
    · rw [List.getElem?_append_right (by rw [bl_len, h2]; omega), bl_len, h2]
      simp only [bl, vbits, List.getElem?_map]
      rw [List.getElem?_range (by omega), List.getElem?_range (by omega)]
      simp only [Option.map_some, ubit, List.getD, List.getElem?_take]
      rw [if_pos (by omega), show j / 8 = k by omega, show 7 - j % 8 = 8 - 1 - (j - 8 * k) by omega]
      rfl
    · rw [List.getElem?_eq_none (by rw [bl_len, h1]; omega), List.getElem?_eq_none (by rw [List.length_append, bl_len, h2, vbits_len]; omega)]

theorem ubit_last (q : List UInt8) (r : Nat) (hq : q.length ≠ 0) (hr : r < 8) : ubit q (8 * q.length - 1 - r) = lastB q / 2 ^ r % 2 := by
  unfold ubit lastB
  rw [show (8 * q.length - 1 - r) / 8 = q.length - 1 by omega, show 7 - (8 * q.length - 1 - r) % 8 = r by omega]
theorem nb_one (q : List UInt8) (hq : q.length ≠ 0) (hb : lastB q ≠ 0) : ubit q (nb q) = 1 ∧ nb q < 8 * q.length ∧ ∀ j, nb q < j → j < 8 * q.length → ubit q j = 0 := by
  have hlt : lastB q < 256 := UInt8.toNat_lt _
  obtain ⟨h1, h2, h3⟩ := (tz8_fact _ hlt).resolve_left hb
  refine ⟨?_, by unfold nb; omega, fun j hj hj2 => ?_⟩
  · rw [nb, ubit_last q _ hq h1, h2]
  · unfold nb at hj
    have := ubit_last q (8 * q.length - 1 - j) hq (by omega)
    rw [show 8 * q.length - 1 - (8 * q.length - 1 - j) = j by omega] at this
    rw [this]
    exact (h3 _ (by omega)).resolve_left (by omega)

/-- The reference's reader. -/
def rR (j v n a : Nat) : Blk := ⟨184, 0, [.msl j v 0 n 1 true, .int .i64 (a : Int)]⟩
def rB (q : List UInt8) (v : Nat) : Blk := ⟨5, v, bs (zb (bl q))⟩

theorem rleft_ref (i j v : Nat) (q : List UInt8) (n a : Nat) (H : Heap) (hA : H[i]? = some (rR j v n a)) (hB : H[j]? = some (rB q v)) (ha : a ≤ n) (hn : n ≤ 1000000000) : CallOk Try.prog 113 [.ptr i 0 0] H (.int .i64 ((n - a : Nat) : Int)) H := by
  have e : (n : Int) - (a : Int) = ((n - a : Nat) : Int) := by omega
  refine CallOk.body (F0 := [(0, .ptr i 0 0)]) Try.func113 rfl Try.ntmps113 Try.results113 rfl (by kernel_rfl) rfl ?_
  (repeat refine PW.seq ?_); refine PW.rg rfl fun K hK => ?_; simp (maxSteps := 3000000) (disch := omega) only [go_sem, ↓reduceIte, reduceCtorEq, pappend, plen]; refine hK _ _ ?_; clear hK K
  (repeat refine PW.seq ?_); refine PW.draw mix (by kernel_rfl) fun K hK => ?_; simp (maxSteps := 3000000) (disch := omega) only [go_sem, ↓reduceIte, reduceCtorEq, pappend, plen, hA, hB, rR, rB, e]; refine hK _ _ ?_; clear hK K
  exact PW.ret ⟨_, rfl, Fin.now⟩

theorem rtake_ref (i j v : Nat) (q : List UInt8) (n a m : Nat) (H : Heap) (hA : H[i]? = some (rR j v n a)) (hB : H[j]? = some (rB q v)) (hne : i ≠ j) (ha : a + m ≤ n) (hn : n ≤ 8 * q.length) (hq : q.length ≤ 100000000) (hm : m ≤ 32) :
    CallOk Try.prog 110 [.ptr i 0 0, .int .i64 (m : Int)] H (.tup [.int .u32 (vl q a m : Int), .int .i64 0]) (H.set i (rR j v n (a + m))) := by
  have hi := (List.getElem?_eq_some_iff.1 hA).1
  have hlf := rleft_ref i j v q n a H hA hB (by omega) (by omega)
  refine CallOk.body (F0 := [(0, .ptr i 0 0), (1, .int .i64 (m : Int))]) Try.func110 rfl Try.ntmps110 Try.results110 rfl (by kernel_rfl) rfl ?_
  (repeat refine PW.seq ?_); refine PW.rg rfl fun K hK => ?_; simp (maxSteps := 3000000) (disch := omega) only [go_sem, ↓reduceIte, reduceCtorEq, pappend, plen]; refine hK _ _ ?_; clear hK K
  (repeat refine PW.seq ?_); refine PW.rg rfl fun K hK => ?_; simp (maxSteps := 3000000) (disch := omega) only [go_sem, ↓reduceIte, reduceCtorEq, pappend, plen]; refine hK _ _ ?_; clear hK K
  (repeat refine PW.seq ?_); refine PW.cond (t := _) rfl (fun h => ?_) (fun h => ?_)
  · cases h
  refine PW.skip ?_
  (repeat refine PW.seq ?_); refine PW.rg rfl fun K hK => ?_; simp (maxSteps := 3000000) (disch := omega) only [go_sem, ↓reduceIte, reduceCtorEq, pappend, plen]; refine VCx.call (hlf) rfl ?_; simp (maxSteps := 3000000) (disch := omega) only [go_sem, ↓reduceIte, reduceCtorEq, pappend, plen]; refine hK _ _ ?_; clear hK K
  (repeat refine PW.seq ?_); refine PW.cond (t := _) rfl (fun h => ?_) (fun h => ?_)
  · cases h
  refine PW.skip ?_
  (repeat refine PW.seq ?_); refine PW.rg rfl fun K hK => ?_; simp (maxSteps := 3000000) (disch := omega) only [go_sem, ↓reduceIte, reduceCtorEq, pappend, plen]; refine hK _ _ ?_; clear hK K
  (repeat refine PW.seq ?_); refine PW.rg rfl fun K hK => ?_; simp (maxSteps := 3000000) (disch := omega) only [go_sem, ↓reduceIte, reduceCtorEq, pappend, plen]; refine hK _ _ ?_; clear hK K
  (repeat refine PW.seq ?_); refine PW.block (PW.loop ?_)
  suffices hloop : ∀ (k : Nat), k ≤ m → PL Try.prog _ _ [(0, .ptr i 0 0), (1, .int .i64 (m : Int)), (6, .int .u32 (vl q a k : Int)), (7, .int .i64 (k : Int))] H _ by
    exact PL.at [0, 1, 6, 7] (hloop 0 (Nat.zero_le _)) rfl rfl
  intro k hk
  induction hmk : m - k using Nat.strongRecOn generalizing k with
  | _ r ih =>
    refine PL.round ?_; (repeat refine PW.seq ?_); refine PW.rg rfl fun K hK => ?_; simp (maxSteps := 3000000) (disch := omega) only [go_sem, ↓reduceIte, reduceCtorEq, pappend, plen]; refine hK _ _ ?_; clear hK K
    (repeat refine PW.seq ?_); refine PW.cond (t := _) rfl (fun h => ?_) (fun h => ?_)
    · have h4 : k < m := by have := of_decide_eq_true h; omega
      have hnext := ih (m - (k + 1)) (by omega) (k + 1) (by omega) rfl
      have hul := ubit_lt q (a + k)
      have hvl := vl_lt q a k
      have hvl2 : 2 * vl q a k < 4294967296 := by
        have : 2 ^ k ≤ 2 ^ 31 := Nat.pow_le_pow_right (by omega) (by omega)
        omega
      have e4 : (a : Int) + (k : Int) = ((a + k : Nat) : Int) := by omega
      have hbl := bl_len q
      refine PW.skip ?_; (repeat refine PW.seq ?_); refine PW.block ?_
      (repeat refine PW.seq ?_); refine PW.draw mix (by kernel_rfl) fun K hK => ?_; simp (maxSteps := 3000000) (disch := omega) only [go_sem, ↓reduceIte, reduceCtorEq, pappend, plen, hA, hB, rR, rB, e4, length_bs, zb_len, hbl, bl_get, pshl1_u32, por_u32]; refine hK _ _ ?_; clear hK K
      (repeat refine PW.seq ?_); refine PW.rg rfl fun K hK => ?_; simp (maxSteps := 3000000) (disch := omega) only [go_sem, ↓reduceIte, reduceCtorEq, pappend, plen]; refine hK _ _ ?_; clear hK K
      exact PL.at [0, 1, 6, 7] hnext rfl rfl
    · have h4 : k = m := by have := of_decide_eq_false h; omega
      subst h4
      have e4 : (a : Int) + (k : Int) = ((a + k : Nat) : Int) := by omega
      refine PW.exit ?_
      (repeat refine PW.seq ?_); refine PW.rg rfl fun K hK => ?_; simp (maxSteps := 3000000) (disch := omega) only [go_sem, ↓reduceIte, reduceCtorEq, pappend, plen, hA, rR, e4]; refine hK _ _ ?_; clear hK K
      (repeat refine PW.seq ?_); refine PW.rg rfl fun K hK => ?_; simp (maxSteps := 3000000) (disch := omega) only [go_sem, ↓reduceIte, reduceCtorEq, pappend, plen]; refine hK _ _ ?_; clear hK K
      exact PW.ret ⟨_, rfl, Fin.now⟩

end Go.Proofs.Ytcabpncdgagihaa.Sc
