/-
  Contracts of the reference of chapter 2: opening a reader.
-/
import Derived.Test.YtnnkohejhnjflaaGreatDoorBq
namespace Go.Proofs.YtnnkohejhnjflaaGreatDoor.Sc
set_option linter.all false
set_option linter.unusedVariables false
set_option linter.unusedSimpArgs false
open Pm Ty Go.RowKit

theorem open_bad (q : List UInt8) (f : Bool) (H : Heap) (hl : q.length ≤ 100000000) (hb : q.length = 0 ∨ lastB q = 0) :
    CallOk Tryz.prog 51 [.slice (bs q) q.length f] H (.tup [.nilp, .int .i64 3]) H := by
  refine CallOk.body (F0 := [(0, .slice (bs q) q.length f)]) Tryz.func51 rfl Tryz.ntmps51 Tryz.results51 rfl (by kernel_rfl) rfl ?_
  by_cases h0 : q.length = 0
  · (repeat refine PW.seq ?_); refine PW.rg rfl fun K hK => ?_; simp (maxSteps := 3000000) (disch := omega) only [go_sem, ↓reduceIte, reduceCtorEq, pappend, plen]; refine hK _ _ ?_; clear hK K
    (repeat refine PW.seq ?_); refine PW.rg rfl fun K hK => ?_; simp (maxSteps := 3000000) (disch := omega) only [go_sem, ↓reduceIte, reduceCtorEq, pappend, plen, h0]
    refine hK _ _ ?_; clear hK K
    (repeat refine PW.seq ?_); refine PW.cond (t := _) rfl (fun h => ?_) (fun h => ?_)
    · (repeat refine PW.seq ?_); refine PW.rg rfl fun K hK => ?_; simp (maxSteps := 3000000) (disch := omega) only [go_sem, ↓reduceIte, reduceCtorEq, pappend, plen]; refine hK _ _ ?_; clear hK K
      exact PW.ret ⟨_, rfl, Fin.now⟩
    · cases h
  · have e1 : (q.length : Int) - 1 = ((q.length - 1 : Nat) : Int) := by omega
    have hby : byt q (q.length - 1) = 0 := by
      have : byt q (q.length - 1) = (lastB q : Int) := rfl
      omega
    (repeat refine PW.seq ?_); refine PW.rg rfl fun K hK => ?_; simp (maxSteps := 3000000) (disch := omega) only [go_sem, ↓reduceIte, reduceCtorEq, pappend, plen]; refine hK _ _ ?_; clear hK K
    (repeat refine PW.seq ?_); refine PW.rg rfl fun K hK => ?_; simp (maxSteps := 3000000) (disch := omega) only [go_sem, ↓reduceIte, reduceCtorEq, pappend, plen, e1, bs_get, length_bs, hby]
    refine hK _ _ ?_; clear hK K
    (repeat refine PW.seq ?_); refine PW.cond (t := _) rfl (fun h => ?_) (fun h => ?_)
    · (repeat refine PW.seq ?_); refine PW.rg rfl fun K hK => ?_; simp (maxSteps := 3000000) (disch := omega) only [go_sem, ↓reduceIte, reduceCtorEq, pappend, plen]; refine hK _ _ ?_; clear hK K
      exact PW.ret ⟨_, rfl, Fin.now⟩
    · cases h
theorem open_ok (q : List UInt8) (f : Bool) (H : Heap) (hl : q.length ≤ 100000000) (hq : q.length ≠ 0) (hb : lastB q ≠ 0) :
    CallOk Tryz.prog 51 [.slice (bs q) q.length f] H (.tup [.ptr (H.length + 1) 0 0, .int .i64 0]) (H ++ [rB q (8 * q.length), rR H.length (8 * q.length) (nb q) 0]) := by
  have e1 : (q.length : Int) - 1 = ((q.length - 1 : Nat) : Int) := by omega
  have hby : byt q (q.length - 1) = (lastB q : Int) := rfl
  obtain ⟨n1, n2, n3⟩ := nb_one q hq hb
  refine CallOk.body (F0 := [(0, .slice (bs q) q.length f)]) Tryz.func51 rfl Tryz.ntmps51 Tryz.results51 rfl (by kernel_rfl) rfl ?_
  (repeat refine PW.seq ?_); refine PW.rg rfl fun K hK => ?_; simp (maxSteps := 3000000) (disch := omega) only [go_sem, ↓reduceIte, reduceCtorEq, pappend, plen]; refine hK _ _ ?_; clear hK K
  (repeat refine PW.seq ?_); refine PW.rg rfl fun K hK => ?_; simp (maxSteps := 3000000) (disch := omega) only [go_sem, ↓reduceIte, reduceCtorEq, pappend, plen, e1, bs_get, length_bs, hby]; refine hK _ _ ?_; clear hK K
  (repeat refine PW.seq ?_); refine PW.cond (t := _) rfl (fun h => ?_) (fun h => ?_)
  · cases h
  refine PW.skip ?_
  (repeat refine PW.seq ?_); refine PW.rg rfl fun K hK => ?_; simp (maxSteps := 3000000) (disch := omega) only [go_sem, ↓reduceIte, reduceCtorEq, pappend, plen]; refine hK _ _ ?_; clear hK K
  (repeat refine PW.seq ?_); refine PW.rg rfl fun K hK => ?_; simp (maxSteps := 3000000) (disch := omega) only [go_sem, ↓reduceIte, reduceCtorEq, pappend, plen]; refine hK _ _ ?_; clear hK K
  (repeat refine PW.seq ?_)
  refine PW.view (Vs.ghost 4 5 1 rfl) ?_
  refine PW.block (PW.loop ?_)
  suffices hloop : ∀ (k : Nat), k ≤ q.length → PL Tryz.prog _ _ [(0, .slice (bs q) q.length f), (4, .msl H.length (8 * k) 0 (8 * k) 1 true), (5, .int .i64 (k : Int))] (H ++ [⟨5, (8 * k), bs (zb (bl (q.take k)))⟩]) _ by
    exact PL.at [0, 4, 5] (hloop 0 (Nat.zero_le _)) (by simp (maxSteps := 3000000) (disch := omega) only [go_sem, ↓reduceIte, reduceCtorEq, pappend, plen]; simp [zb, bs, bl]) (by simp [zb, bs, bl])
  intro k hk
  induction hm : q.length - k using Nat.strongRecOn generalizing k with
  | _ m ih =>
    have hlk : (zb (bl (q.take k))).length = 8 * k := by rw [zb_len, bl_len, List.length_take]; omega
    refine PL.round ?_; (repeat refine PW.seq ?_); refine PW.rg rfl fun K hK => ?_; simp (maxSteps := 3000000) (disch := omega) only [go_sem, ↓reduceIte, reduceCtorEq, pappend, plen]; refine hK _ _ ?_; clear hK K
    (repeat refine PW.seq ?_); refine PW.cond (t := _) rfl (fun h => ?_) (fun h => ?_)
    · have h4 : k < q.length := by have := of_decide_eq_true h; omega
      have hnext := ih (q.length - (k + 1)) (by omega) (k + 1) (by omega) rfl
      rw [bl_take q k h4, zb_append, bs_append] at hnext
      have hbk : byt q k = ((q.getD k 0).toNat : Int) := rfl
      have hr := byt_range q k
      have hv8 : (vbits (q.getD k 0).toNat 8).length = 8 := vbits_len _ _
      refine PW.skip ?_; (repeat refine PW.seq ?_); refine PW.block ?_
      have hbits := bits_refF (q.getD k 0).toNat 8 (H ++ [⟨5, (8 * k), bs (zb (bl (q.take k)))⟩]) (by omega)
      (repeat refine PW.seq ?_); refine PW.rg rfl fun K hK => ?_; simp (maxSteps := 3000000) (disch := omega) only [go_sem, ↓reduceIte, reduceCtorEq, pappend, plen, bs_get, length_bs, hlk, hbk, zb_len, hv8]; refine VCx.call (hbits) rfl ?_; simp (maxSteps := 3000000) (disch := omega) only [go_sem, ↓reduceIte, reduceCtorEq, pappend, plen, bs_get, length_bs, hlk, hbk, zb_len, hv8]; refine hK _ _ ?_; clear hK K
      (repeat refine PW.seq ?_); refine PW.rg rfl fun K hK => ?_; simp (maxSteps := 3000000) (disch := omega) only [go_sem, ↓reduceIte, reduceCtorEq, pappend, plen]; refine hK _ _ ?_; clear hK K
      have hce : (bs (zb (bl (List.take k q))) ++ bs (zb (vbits (q.getD k 0).toNat 8))).length = 8 * (k + 1) := by rw [List.length_append, length_bs, length_bs, hlk, zb_len, hv8]; omega
      refine PL.at [0, 4, 5] hnext ?_ ?_
      · simp (maxSteps := 3000000) (disch := omega) only [go_sem, ↓reduceIte, reduceCtorEq, pappend, plen]
        rw [hce]; rfl
      · rw [hce]
    · have h4 : k = q.length := by have := of_decide_eq_false h; omega
      subst h4
      rw [List.take_of_length_le (Nat.le_refl _)] at hlk ⊢
      refine PW.exit ?_
      have hbl := bl_len q
      have e2 : ((8 * q.length : Nat) : Int) - 1 = ((8 * q.length - 1 : Nat) : Int) := by omega
      (repeat refine PW.seq ?_); refine PW.rg rfl fun K hK => ?_; simp (maxSteps := 3000000) (disch := omega) only [go_sem, ↓reduceIte, reduceCtorEq, pappend, plen, length_bs, e2]; refine hK _ _ ?_; clear hK K
      (repeat refine PW.seq ?_); refine PW.block (PW.loop ?_)
      clear ih
      suffices hloop : ∀ (m : Nat), nb q ≤ m → m < 8 * q.length → PL Tryz.prog _ _ [(4, .msl H.length (8 * q.length) 0 (8 * q.length) 1 true), (6, .int .i64 (m : Int))] (H ++ [⟨5, 8 * q.length, bs (zb (bl q))⟩]) _ by
        exact PL.at [4, 6] (hloop (8 * q.length - 1) (by omega) (by omega)) rfl rfl
      intro m hm1 hm2
      induction m using Nat.strongRecOn with
      | _ m ih =>
        refine PL.round ?_
        by_cases h5 : m = nb q
        · have h6 : ubit q m = 1 := by rw [h5]; exact n1
          (repeat refine PW.seq ?_); refine PW.rg rfl fun K hK => ?_; simp (maxSteps := 3000000) (disch := omega) only [go_sem, ↓reduceIte, reduceCtorEq, pappend, plen, length_bs, zb_len, hbl, bl_get, h6]; refine hK _ _ ?_; clear hK K
          (repeat refine PW.seq ?_); refine PW.cond (t := _) rfl (fun h => ?_) (fun h => ?_)
          · cases h
          refine PW.exit ?_
          (repeat refine PW.seq ?_); refine PW.rg rfl fun K hK => ?_; simp (maxSteps := 3000000) (disch := omega) only [go_sem, ↓reduceIte, reduceCtorEq, pappend, plen, h5]; refine hK _ _ ?_; clear hK K
          exact PW.ret ⟨_, rfl, Fin.now⟩
        · have h6 : ubit q m = 0 := n3 m (by omega) hm2
          have e3 : (m : Int) - 1 = ((m - 1 : Nat) : Int) := by omega
          (repeat refine PW.seq ?_); refine PW.rg rfl fun K hK => ?_; simp (maxSteps := 3000000) (disch := omega) only [go_sem, ↓reduceIte, reduceCtorEq, pappend, plen, length_bs, zb_len, hbl, bl_get, h6]; refine hK _ _ ?_; clear hK K
          (repeat refine PW.seq ?_); refine PW.cond (t := _) rfl (fun h => ?_) (fun h => ?_)
          · refine PW.skip ?_; (repeat refine PW.seq ?_); refine PW.block ?_
            (repeat refine PW.seq ?_); refine PW.rg rfl fun K hK => ?_; simp (maxSteps := 3000000) (disch := omega) only [go_sem, ↓reduceIte, reduceCtorEq, pappend, plen, e3]; refine hK _ _ ?_; clear hK K
            exact PL.at [4, 6] (ih (m - 1) (by omega) (by omega) (by omega)) rfl rfl
          · cases h

end Go.Proofs.YtnnkohejhnjflaaGreatDoor.Sc
