/-
  Contracts of the reference of chapter 2: Bits, Payload.
-/
import Derived.Test.YtcabpncdgagihaaBx
namespace Go.Proofs.Ytcabpncdgagihaa.Sc
set_option linter.all false
set_option linter.unusedVariables false
set_option linter.unusedSimpArgs false
open Pm Ty Go.RowKit

/-- Bits as bytes 0 and 1. -/
def zb (l : List Bool) : List UInt8 := l.map fun b => if b then 1 else 0
theorem zb_len (l : List Bool) : (zb l).length = l.length := by simp [zb]
theorem zb_append (l m : List Bool) : zb (l ++ m) = zb l ++ zb m := by simp [zb]
theorem zb_byt (l : List Bool) (i : Nat) (h : i < l.length) : byt (zb l) i = (bn l i : Int) := by
  simp only [byt, zb, bn, List.getD, List.getElem?_map, List.getElem?_eq_getElem h, Option.map_some, Option.getD_some]
  cases l[i] <;> rfl
theorem bs_zb1 (m : Nat) : bs (zb [decide (m % 2 = 1)]) = [.int .u8 ((m % 2 : Nat) : Int)] := by
  rcases Nat.mod_two_eq_zero_or_one m with h | h <;> simp [zb, bs, h]

theorem bits_ref (V n : Nat) (H : Heap) (hn : n ≤ 32) : CallOk Try.prog 82 [.int .u32 (V : Int), .int .i64 (n : Int)] H (.msl H.length (bs (zb (vbits V n))).length 0 n 1 true) (H ++ [⟨5, (bs (zb (vbits V n))).length, bs (zb (vbits V n))⟩]) := by
  refine CallOk.body (F0 := [(0, .int .u32 (V : Int)), (1, .int .i64 (n : Int))]) Try.func82 rfl Try.ntmps82 Try.results82 rfl (by kernel_rfl) rfl ?_
  (repeat refine PW.seq ?_); refine PW.rg rfl fun K hK => ?_; simp (maxSteps := 3000000) (disch := omega) only [go_sem, ↓reduceIte, reduceCtorEq, pappend, plen]; refine hK _ _ ?_; clear hK K; (repeat refine PW.seq ?_); refine PW.rg rfl fun K hK => ?_; simp (maxSteps := 3000000) (disch := omega) only [go_sem, ↓reduceIte, reduceCtorEq, pappend, plen]; refine hK _ _ ?_; clear hK K; (repeat refine PW.seq ?_); refine PW.rg rfl fun K hK => ?_; simp (maxSteps := 3000000) (disch := omega) only [go_sem, ↓reduceIte, reduceCtorEq, pappend, plen]; refine hK _ _ ?_; clear hK K
  (repeat refine PW.seq ?_)
  refine PW.view (Vs.ghost 5 5 1 rfl) ?_
  refine PW.block (PW.loop ?_)
  suffices hloop : ∀ (k : Nat), k ≤ n → PL Try.prog _ _ [(0, .int .u32 (V : Int)), (5, .msl H.length (bs (zb ((vbits V n).take k))).length 0 k 1 true), (6, .int .i64 ((n : Int) - 1 - (k : Int)))] (H ++ [⟨5, (bs (zb ((vbits V n).take k))).length, bs (zb ((vbits V n).take k))⟩]) _ by
    exact PL.at [0, 5, 6] (hloop 0 (Nat.zero_le _)) (by simp (maxSteps := 3000000) (disch := omega) only [go_sem, ↓reduceIte, reduceCtorEq, pappend, plen]; simp [zb, bs]) (by simp [zb, bs])
  intro k hk
  have hl : (zb ((vbits V n).take k)).length = k := by rw [zb_len, List.length_take, vbits_len]; omega
  induction hm : n - k using Nat.strongRecOn generalizing k with
  | _ m ih =>
    refine PL.round ?_; (repeat refine PW.seq ?_); refine PW.rg rfl fun K hK => ?_; simp (maxSteps := 3000000) (disch := omega) only [go_sem, ↓reduceIte, reduceCtorEq, pappend, plen]; refine hK _ _ ?_; clear hK K
    (repeat refine PW.seq ?_); refine PW.cond (t := _) rfl (fun h => ?_) (fun h => ?_)
    · have h4 : k < n := by have := of_decide_eq_true h; omega
      have e1 : (n : Int) - 1 - (k : Int) = ((n - 1 - k : Nat) : Int) := by omega
      have htk := vbits_take V n k h4
      have hb1 := bs_zb1 (V / 2 ^ (n - 1 - k))
      have hmd : V / 2 ^ (n - 1 - k) % 2 < 2 := Nat.mod_lt _ (by omega)
      refine PW.skip ?_; (repeat refine PW.seq ?_); refine PW.block ?_
      (repeat refine PW.seq ?_); refine PW.rg rfl fun K hK => ?_; simp (maxSteps := 3000000) (disch := omega) only [go_sem, ↓reduceIte, reduceCtorEq, pappend, plen, e1, wu64, pshr_u32, pand1_u32, length_bs, hl]; refine hK _ _ ?_; clear hK K
      (repeat refine PW.seq ?_); refine PW.rg rfl fun K hK => ?_; simp (maxSteps := 3000000) (disch := omega) only [go_sem, ↓reduceIte, reduceCtorEq, pappend, plen]; refine hK _ _ ?_; clear hK K
      refine PL.at [0, 5, 6] (ih (n - (k + 1)) (by omega) (k + 1) (by omega) (by rw [zb_len, List.length_take, vbits_len]; omega) rfl) ?_ ?_
      · rw [htk, zb_append, bs_append, hb1]
        simp (maxSteps := 3000000) (disch := omega) only [go_sem, ↓reduceIte, reduceCtorEq, pappend, plen]
        have : ((n - 1 - k : Nat) : Int) - 1 = (n : Int) - 1 - ((k + 1 : Nat) : Int) := by omega
        rw [this]
      · rw [htk, zb_append, bs_append, hb1]
    · have h4 : k = n := by have := of_decide_eq_false h; omega
      subst h4
      have htk : (vbits V k).take k = vbits V k := List.take_of_length_le (by rw [vbits_len]; exact Nat.le_refl _)
      rw [htk] at hl ⊢
      refine PW.exit ?_
      (repeat refine PW.seq ?_); refine PW.rg rfl fun K hK => ?_; simp (maxSteps := 3000000) (disch := omega) only [go_sem, ↓reduceIte, reduceCtorEq, pappend, plen]; refine hK _ _ ?_; clear hK K
      exact PW.ret ⟨_, rfl, Fin.now⟩

end Go.Proofs.Ytcabpncdgagihaa.Sc
