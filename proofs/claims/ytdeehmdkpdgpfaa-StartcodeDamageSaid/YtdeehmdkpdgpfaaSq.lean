/-
  The contract of the law StartcodeDamage.
-/
import Derived.Test.YtdeehmdkpdgpfaaSp
namespace Go.Proofs.Ytdeehmdkpdgpfaa.Sc
set_option linter.all false
set_option linter.unusedVariables false
set_option linter.unusedSimpArgs false
open Pm Ty Go.RowKit

def xor8 (a b : Int) : UInt8 := UInt8.ofNat (IntKind.u8.wrap (BitVec.ofInt IntKind.u8.bits a ^^^ BitVec.ofInt IntKind.u8.bits b).toNat).toNat
theorem pxor8 (a b : Int) : pint .xor .u8 a .u8 b = some (.int .u8 ((xor8 a b).toNat : Int)) := by
  obtain ⟨v, hv⟩ := u8_wrap (BitVec.ofInt IntKind.u8.bits a ^^^ BitVec.ofInt IntKind.u8.bits b).toNat
  have h : ((xor8 a b).toNat : Int) = IntKind.u8.wrap (BitVec.ofInt IntKind.u8.bits a ^^^ BitVec.ofInt IntKind.u8.bits b).toNat := by
    unfold xor8
    rw [hv]
    simp
  rw [h]
  simp [pint]

theorem law_damage (us : List (Int × List UInt8)) (k at_ by_ : Int) (g : Bool) (H : Heap) (hk1 : -9223372036854775808 ≤ k ∧ k ≤ 9223372036854775807) (ha1 : -9223372036854775808 ≤ at_ ∧ at_ ≤ 9223372036854775807) (hu1 : us.length ≤ 9223372036854775807) :
    CallOk Try.prog 10 [.slice (uc false us) us.length g, .int .i64 k, .int .i64 at_, .int .u8 by_] H (.bool true) H := by
  refine CallOk.body (F0 := [(0, .slice (uc false us) us.length g), (1, .int .i64 k), (2, .int .i64 at_), (3, .int .u8 by_)]) Try.func10 rfl Try.ntmps10 Try.results10 rfl (by kernel_rfl) rfl ?_
  refine PW.seq ?_; refine PW.rg rfl fun K hK => ?_; simp (disch := omega) only [go_sem, ↓reduceIte, reduceCtorEq, pappend, plen]; refine hK _ _ ?_; clear hK K
  refine PW.seq ?_
  by_cases h1 : us.length = 0
  · refine PW.seq ?_; refine PW.rg rfl fun K hK => ?_; simp (disch := omega) only [go_sem, ↓reduceIte, reduceCtorEq, pappend, plen]; refine hK _ _ ?_; clear hK K
    refine PW.cond (t := _) rfl (fun _ => ?_) (fun h => by cases h)
    refine PW.seq ?_; refine PW.rg rfl fun K hK => ?_; simp (disch := omega) only [go_sem, ↓reduceIte, reduceCtorEq, pappend, plen]; refine VC.call (awake_ok _) rfl rfl ?_; simp (disch := omega) only [go_sem, ↓reduceIte, reduceCtorEq, pappend, plen]; refine hK _ _ ?_; clear hK K
    exact PW.ret ⟨_, rfl, Fin.now⟩
  by_cases hf : formedB us = true
  case neg =>
    have hf' : formedB us = false := by simpa using hf
    have hfo := formed_ok us false g H
    rw [hf'] at hfo
    refine PW.seq ?_; refine PW.rg rfl fun K hK => ?_; simp (disch := omega) only [go_sem, ↓reduceIte, reduceCtorEq, pappend, plen]; refine VC.call (hfo) rfl rfl ?_; simp (disch := omega) only [go_sem, ↓reduceIte, reduceCtorEq, pappend, plen]; refine hK _ _ ?_; clear hK K
    refine PW.cond (t := _) rfl (fun _ => ?_) (fun h => by cases h)
    refine PW.seq ?_; refine PW.rg rfl fun K hK => ?_; simp (disch := omega) only [go_sem, ↓reduceIte, reduceCtorEq, pappend, plen]; refine VC.call (awake_ok _) rfl rfl ?_; simp (disch := omega) only [go_sem, ↓reduceIte, reduceCtorEq, pappend, plen]; refine hK _ _ ?_; clear hK K
    exact PW.ret ⟨_, rfl, Fin.now⟩
  have hfo := formed_ok us false g H
  rw [hf] at hfo
  by_cases h2 : k < 0
  · refine PW.seq ?_; refine PW.rg rfl fun K hK => ?_; simp (disch := omega) only [go_sem, ↓reduceIte, reduceCtorEq, pappend, plen]; refine VC.call (hfo) rfl rfl ?_; simp (disch := omega) only [go_sem, ↓reduceIte, reduceCtorEq, pappend, plen]; refine hK _ _ ?_; clear hK K
    refine PW.cond (t := _) rfl (fun _ => ?_) (fun h => by cases h)
    refine PW.seq ?_; refine PW.rg rfl fun K hK => ?_; simp (disch := omega) only [go_sem, ↓reduceIte, reduceCtorEq, pappend, plen]; refine VC.call (awake_ok _) rfl rfl ?_; simp (disch := omega) only [go_sem, ↓reduceIte, reduceCtorEq, pappend, plen]; refine hK _ _ ?_; clear hK K
    exact PW.ret ⟨_, rfl, Fin.now⟩
  by_cases h3 : (us.length : Int) ≤ k
  · refine PW.seq ?_; refine PW.rg rfl fun K hK => ?_; simp (disch := omega) only [go_sem, ↓reduceIte, reduceCtorEq, pappend, plen]; refine VC.call (hfo) rfl rfl ?_; simp (disch := omega) only [go_sem, ↓reduceIte, reduceCtorEq, pappend, plen]; refine hK _ _ ?_; clear hK K
    refine PW.cond (t := _) rfl (fun _ => ?_) (fun h => by cases h)
    refine PW.seq ?_; refine PW.rg rfl fun K hK => ?_; simp (disch := omega) only [go_sem, ↓reduceIte, reduceCtorEq, pappend, plen]; refine VC.call (awake_ok _) rfl rfl ?_; simp (disch := omega) only [go_sem, ↓reduceIte, reduceCtorEq, pappend, plen]; refine hK _ _ ?_; clear hK K
    exact PW.ret ⟨_, rfl, Fin.now⟩
  by_cases h4 : at_ < 0
  · refine PW.seq ?_; refine PW.rg rfl fun K hK => ?_; simp (disch := omega) only [go_sem, ↓reduceIte, reduceCtorEq, pappend, plen]; refine VC.call (hfo) rfl rfl ?_; simp (disch := omega) only [go_sem, ↓reduceIte, reduceCtorEq, pappend, plen]; refine hK _ _ ?_; clear hK K
    refine PW.cond (t := _) rfl (fun _ => ?_) (fun h => by cases h)
    refine PW.seq ?_; refine PW.rg rfl fun K hK => ?_; simp (disch := omega) only [go_sem, ↓reduceIte, reduceCtorEq, pappend, plen]; refine VC.call (awake_ok _) rfl rfl ?_; simp (disch := omega) only [go_sem, ↓reduceIte, reduceCtorEq, pappend, plen]; refine hK _ _ ?_; clear hK K
    exact PW.ret ⟨_, rfl, Fin.now⟩
  by_cases h5 : by_ = 0
  · refine PW.seq ?_; refine PW.rg rfl fun K hK => ?_; simp (disch := omega) only [go_sem, ↓reduceIte, reduceCtorEq, pappend, plen]; refine VC.call (hfo) rfl rfl ?_; simp (disch := omega) only [go_sem, ↓reduceIte, reduceCtorEq, pappend, plen]; refine hK _ _ ?_; clear hK K
    refine PW.cond (t := _) rfl (fun _ => ?_) (fun h => by cases h)
    refine PW.seq ?_; refine PW.rg rfl fun K hK => ?_; simp (disch := omega) only [go_sem, ↓reduceIte, reduceCtorEq, pappend, plen]; refine VC.call (awake_ok _) rfl rfl ?_; simp (disch := omega) only [go_sem, ↓reduceIte, reduceCtorEq, pappend, plen]; refine hK _ _ ?_; clear hK K
    exact PW.ret ⟨_, rfl, Fin.now⟩
  refine PW.seq ?_; refine PW.rg rfl fun K hK => ?_; simp (disch := omega) only [go_sem, ↓reduceIte, reduceCtorEq, pappend, plen]; refine VC.call (hfo) rfl rfl ?_; simp (disch := omega) only [go_sem, ↓reduceIte, reduceCtorEq, pappend, plen]; refine hK _ _ ?_; clear hK K
  refine PW.cond (t := _) rfl (fun h => by cases h) (fun _ => PW.skip ?_)
  have h20 := (formed_at hf).1
  obtain ⟨hbl, hfl⟩ := jB_len [] hf
  obtain ⟨k, rfl⟩ : ∃ n : Nat, k = n := ⟨k.toNat, by omega⟩
  obtain ⟨m, rfl⟩ : ∃ n : Nat, at_ = n := ⟨at_.toNat, by omega⟩
  have hkl : k < us.length := by omega
  obtain ⟨a, c, hfa, hto, hac, hc4, _⟩ := dmg us (formed_oks hf) k hkl 0 0
  have hd := fun (r : Nat) (v : UInt8) => dmg us (formed_oks hf) k hkl r v
  refine PW.seq ?_; refine PW.rg rfl fun K hK => ?_; simp (disch := omega) only [go_sem, ↓reduceIte, reduceCtorEq, pappend, plen]; refine VC.call (joined_ok us [] g true _ hf (by simp)) rfl rfl ?_; simp (disch := omega) only [go_sem, ↓reduceIte, reduceCtorEq, pappend, plen]; refine hK _ _ ?_; clear hK K
  refine PW.seq ?_; refine PW.seq ?_; refine PW.rg rfl fun K hK => ?_; simp (disch := omega) only [go_sem, ↓reduceIte, reduceCtorEq, pappend, plen]; refine hK _ _ ?_; clear hK K
  refine PW.cond (t := _) rfl (fun h => by cases h) (fun _ => PW.skip ?_)
  refine PW.seq ?_; refine PW.draw mix (by kernel_rfl) fun K hK => ?_; simp (disch := omega) only [go_sem, ↓reduceIte, reduceCtorEq, pappend, plen, fc_len, fc_2, fc_3, hfa, hto]; refine hK _ _ ?_; clear hK K
  refine PW.seq ?_; refine PW.seq ?_; refine PW.rg rfl fun K hK => ?_; simp (disch := omega) only [go_sem, ↓reduceIte, reduceCtorEq, pappend, plen]; refine hK _ _ ?_; clear hK K
  refine PW.cond (t := _) rfl (fun h => ?_) (fun h => ?_)
  · refine PW.seq ?_; refine PW.rg rfl fun K hK => ?_; simp (disch := omega) only [go_sem, ↓reduceIte, reduceCtorEq, pappend, plen]; refine VC.call (awake_ok _) rfl rfl ?_; simp (disch := omega) only [go_sem, ↓reduceIte, reduceCtorEq, pappend, plen]; refine hK _ _ ?_; clear hK K
    refine PW.ret ⟨_, rfl, Fin.base (.id (.bool _))⟩
  have hc5 : 4 < c := by have := of_decide_eq_false h; omega
  have e1 : ((a + c : Nat) : Int) - (a : Nat) - 4 = ((c - 4 : Nat) : Int) := by omega
  have e2 : (m : Int).tmod ((c - 4 : Nat) : Int) = ((m % (c - 4) : Nat) : Int) := by rw [Int.tmod_eq_emod_of_nonneg (by omega)]; rfl
  have hr : m % (c - 4) < c - 4 := Nat.mod_lt _ (by omega)
  have e3 : (a : Int) + 4 + ((m % (c - 4) : Nat) : Int) = ((a + 4 + m % (c - 4) : Nat) : Int) := by omega
  refine PW.skip ?_
  refine PW.seq ?_; refine PW.draw mix (by kernel_rfl) fun K hK => ?_; simp (disch := omega) only [go_sem, ↓reduceIte, reduceCtorEq, pappend, plen, fc_len, fc_2, fc_3, hfa, hto, e1, e2, e3]; refine hK _ _ ?_; clear hK K
  generalize hrr : m % (c - 4) = r at *
  refine PW.seq ?_; refine PW.seq ?_; refine PW.rg rfl fun K hK => ?_; simp (disch := omega) only [go_sem, ↓reduceIte, reduceCtorEq, pappend, plen, ub, uB]; refine hK _ _ ?_; clear hK K
  refine PW.cond (t := _) rfl (fun h => by cases h) (fun _ => PW.skip ?_)
  refine PW.seq ?_; refine PW.rg rfl fun K hK => ?_; simp (disch := omega) only [go_sem, ↓reduceIte, reduceCtorEq, pappend, plen, ub, uB, length_bs, bs_get, ↓pxor8, bs_set]; refine hK _ _ ?_; clear hK K
  generalize xor8 (byt (jB [] us) (a + 4 + r)) by_ = v
  obtain ⟨a', c', ha', hto', _, _, hall⟩ := hd r v
  rw [hfa] at ha'
  subst ha'
  rw [hto] at hto'
  have hcc : c' = c := by omega
  subst hcc
  have hall := hall (by omega)
  have hbl' : ((jB [] us).set (a + 4 + r) v).length = (jB [] us).length := List.length_set
  rw [← hfl] at hall hkl
  generalize hLL : jF [] us = L at *
  generalize (jB [] us).set (a + 4 + r) v = b at *
  generalize jB [] us = b0 at *
  refine PW.view (Vs.trim (F1 := [(1, .int .i64 (k : Int)), (9, bv b), (10, .slice (fc L) L.length false)]) (H1 := H) (fun h => h) (Nat.le_refl _) rfl ⟨.id (.int _ _), ?_, .id (fcv_scoped _ _), trivial⟩) ?_
  · rw [bv, hbl']
    exact Fz.mslC (e := 5) (xs := bs b) (Nat.le_refl _) (by simp [length_bs]) (by simp [length_bs, hbl']) (FzC.refl (bs_scoped _ _))
  have hsp := split_ok b false H (by omega)
  have hspl := (spl_len b).1
  generalize (spl b).1 = G at *
  generalize (spl b).2 = D at *
  refine PW.seq ?_; refine PW.rg rfl fun K hK => ?_; simp (disch := omega) only [go_sem, ↓reduceIte, reduceCtorEq, pappend, plen]; refine VC.call (hsp) rfl rfl ?_; simp (disch := omega) only [go_sem, ↓reduceIte, reduceCtorEq, pappend, plen]; refine hK _ _ ?_; clear hK K
  refine PW.seq ?_; refine PW.seq ?_; refine PW.rg rfl fun K hK => ?_; simp (disch := omega) only [go_sem, ↓reduceIte, reduceCtorEq, pappend, plen]; refine hK _ _ ?_; clear hK K
  refine PW.block (PW.loop ?_)
  suffices hloop : ∀ (i : Nat), i ≤ L.length → PL Try.prog _ _ [(1, .int .i64 (k : Int)), (10, .slice (fc L) L.length false), (14, .slice (fc G) G.length false), (16, .int .i64 (i : Int))] H _ by
    exact PL.at [1, 10, 14, 16] (hloop 0 (Nat.zero_le _)) rfl rfl
  intro i hi
  induction hm : L.length - i using Nat.strongRecOn generalizing i with
  | _ n ih =>
    refine PL.round (PW.seq (PW.seq ?_)); refine PW.rg rfl fun K hK => ?_; simp (disch := omega) only [go_sem, ↓reduceIte, reduceCtorEq, pappend, plen]; refine hK _ _ ?_; clear hK K
    refine PW.cond (t := _) rfl (fun h => ?_) (fun h => ?_)
    · have h6 : i < L.length := by have := of_decide_eq_true h; omega
      refine PW.skip (PW.seq (PW.block (PW.seq ?_))); refine PW.seq ?_; refine PW.rg rfl fun K hK => ?_; simp (disch := omega) only [go_sem, ↓reduceIte, reduceCtorEq, pappend, plen]; refine hK _ _ ?_; clear hK K
      refine PW.cond (t := _) rfl (fun h => ?_) (fun h => ?_)
      · refine PW.exit ?_
        refine PW.rg rfl fun K hK => ?_; simp (disch := omega) only [go_sem, ↓reduceIte, reduceCtorEq, pappend, plen]; refine hK _ _ ?_; clear hK K
        exact PL.at [1, 10, 14, 16] (ih (L.length - (i + 1)) (by omega) (i + 1) (by omega) rfl) rfl rfl
      · have hne : i ≠ k := by intro e; subst e; simp at h
        refine PW.skip ?_
        refine PW.seq ?_; refine PW.rg rfl fun K hK => ?_; simp (disch := omega) only [go_sem, ↓reduceIte, reduceCtorEq, pappend, plen]; refine hK _ _ ?_; clear hK K
        refine PW.seq (PW.seq ?_); refine PW.rg rfl fun K hK => ?_; simp (disch := omega) only [go_sem, ↓reduceIte, reduceCtorEq, pappend, plen]; refine hK _ _ ?_; clear hK K
        refine PW.block (PW.loop ?_)
        suffices hin : ∀ (j : Nat), j ≤ G.length → PL Try.prog _ _ [(1, .int .i64 (k : Int)), (10, .slice (fc L) L.length false), (14, .slice (fc G) G.length false), (16, .int .i64 (i : Int)), (17, .bool (anyS G (fn L i) j)), (18, .int .i64 (j : Int))] H _ by
          exact PL.at [1, 10, 14, 16, 17, 18] (hin 0 (Nat.zero_le _)) rfl rfl
        intro j hj
        induction hmj : G.length - j using Nat.strongRecOn generalizing j with
        | _ nj ihj =>
          refine PL.round (PW.seq (PW.seq ?_)); refine PW.rg rfl fun K hK => ?_; simp (disch := omega) only [go_sem, ↓reduceIte, reduceCtorEq, pappend, plen]; refine hK _ _ ?_; clear hK K
          refine PW.cond (t := _) rfl (fun h => ?_) (fun h => ?_)
          · have h7 : j < G.length := by have := of_decide_eq_true h; omega
            have hs := anyS_succ G (fn L i) j h7
            refine PW.skip (PW.seq (PW.block ?_))
            have hsame := same2_ok (fn G j) (fn L i) H
            cases hb : anyS G (fn L i) j with
            | true =>
              rw [hb] at hs
              refine PW.draw mix (by kernel_rfl) fun K hK => ?_; simp (disch := omega) only [go_sem, ↓reduceIte, reduceCtorEq, pappend, plen]; refine hK _ _ ?_; clear hK K
              refine PW.rg rfl fun K hK => ?_; simp (disch := omega) only [go_sem, ↓reduceIte, reduceCtorEq, pappend, plen]; refine hK _ _ ?_; clear hK K
              exact PL.at [1, 10, 14, 16, 17, 18] (ihj (G.length - (j + 1)) (by omega) (j + 1) (by omega) rfl) (by rw [hs]; rfl) rfl
            | false =>
              rw [hb] at hs
              refine PW.draw mix (by kernel_rfl) fun K hK => ?_; simp (disch := omega) only [go_sem, ↓reduceIte, reduceCtorEq, pappend, plen, fc_len, fc_take]; refine VCd.call (hsame) rfl rfl ?_; simp (disch := omega) only [go_sem, ↓reduceIte, reduceCtorEq, pappend, plen]; refine hK _ _ ?_; clear hK K
              refine PW.rg rfl fun K hK => ?_; simp (disch := omega) only [go_sem, ↓reduceIte, reduceCtorEq, pappend, plen]; refine hK _ _ ?_; clear hK K
              exact PL.at [1, 10, 14, 16, 17, 18] (ihj (G.length - (j + 1)) (by omega) (j + 1) (by omega) rfl) (by rw [hs]; rfl) rfl
          · have h7 : j = G.length := by have := of_decide_eq_false h; omega
            subst h7
            rw [anyS_mem G (fn L i) (hall i (by omega) hne)]
            refine PW.exit (PW.seq ?_); refine PW.rg rfl fun K hK => ?_; simp (disch := omega) only [go_sem, ↓reduceIte, reduceCtorEq, pappend, plen]; refine hK _ _ ?_; clear hK K
            refine PW.cond (t := _) rfl (fun h => by cases h) (fun _ => PW.skip ?_)
            refine PW.rg rfl fun K hK => ?_; simp (disch := omega) only [go_sem, ↓reduceIte, reduceCtorEq, pappend, plen]; refine hK _ _ ?_; clear hK K
            exact PL.at [1, 10, 14, 16] (ih (L.length - (i + 1)) (by omega) (i + 1) (by omega) rfl) rfl rfl
    · refine PW.exit ?_
      refine PW.seq ?_; refine PW.rg rfl fun K hK => ?_; simp (disch := omega) only [go_sem, ↓reduceIte, reduceCtorEq, pappend, plen]; refine VC.call (awake_ok _) rfl rfl ?_; simp (disch := omega) only [go_sem, ↓reduceIte, reduceCtorEq, pappend, plen]; refine hK _ _ ?_; clear hK K
      exact PW.ret ⟨_, rfl, Fin.now⟩

end Go.Proofs.Ytdeehmdkpdgpfaa.Sc
