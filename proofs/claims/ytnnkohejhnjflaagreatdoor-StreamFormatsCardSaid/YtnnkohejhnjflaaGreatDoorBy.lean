/-
  Contracts of the reference of chapter 2: Bits, Payload.
-/
import Derived.Test.YtnnkohejhnjflaaGreatDoorBx
namespace Go.Proofs.YtnnkohejhnjflaaGreatDoor.Sc
set_option linter.all false
set_option linter.unusedVariables false
set_option linter.unusedSimpArgs false
open Pm Ty Go.RowKit

/-- Bits as bytes 0 and 1. -/
def zb (l : List Bool) : List UInt8 := l.map fun b => if b then 1 else 0
theorem zb_len (l : List Bool) : (zb l).length = l.length := by simp [zb]
theorem zb_append (l m : List Bool) : zb (l ++ m) = zb l ++ zb m := by simp [zb]
theorem zb_byt (l : List Bool) (i : Nat) (h : i < l.length) : byt (zb l) i = (bn l i : Int) := by
  simp only [byt, zb, bn, List.getD, List.getElem?_map, List.getElem?_eq_getElem h, Option.map_some, Option.getD_some]
  cases l[i] <;> rfl
theorem bs_zb1 (m : Nat) : bs (zb [decide (m % 2 = 1)]) = [.int .u8 ((m % 2 : Nat) : Int)] := by
  rcases Nat.mod_two_eq_zero_or_one m with h | h <;> simp [zb, bs, h]

theorem bits_ref (V n : Nat) (H : Heap) (hn : n ≤ 32) : CallOk Tryz.prog 39 [.int .u32 (V : Int), .int .i64 (n : Int)] H (.msl H.length (bs (zb (vbits V n))).length 0 n 1 true) (H ++ [⟨5, (bs (zb (vbits V n))).length, bs (zb (vbits V n))⟩]) := by
  refine CallOk.body (F0 := [(0, .int .u32 (V : Int)), (1, .int .i64 (n : Int))]) Tryz.func39 rfl Tryz.ntmps39 Tryz.results39 rfl (by kernel_rfl) rfl ?_
  (repeat refine PW.seq ?_); refine PW.rg rfl fun K hK => ?_; simp (maxSteps := 3000000) (disch := omega) only [go_sem, ↓reduceIte, reduceCtorEq, pappend, plen]; refine hK _ _ ?_; clear hK K; (repeat refine PW.seq ?_); refine PW.rg rfl fun K hK => ?_; simp (maxSteps := 3000000) (disch := omega) only [go_sem, ↓reduceIte, reduceCtorEq, pappend, plen]; refine hK _ _ ?_; clear hK K; (repeat refine PW.seq ?_); refine PW.rg rfl fun K hK => ?_; simp (maxSteps := 3000000) (disch := omega) only [go_sem, ↓reduceIte, reduceCtorEq, pappend, plen]; refine hK _ _ ?_; clear hK K
  (repeat refine PW.seq ?_)
  refine PW.view (Vs.ghost 5 5 1 rfl) ?_
  refine PW.block (PW.loop ?_)
  suffices hloop : ∀ (k : Nat), k ≤ n → PL Tryz.prog _ _ [(0, .int .u32 (V : Int)), (5, .msl H.length (bs (zb ((vbits V n).take k))).length 0 k 1 true), (6, .int .i64 ((n : Int) - 1 - (k : Int)))] (H ++ [⟨5, (bs (zb ((vbits V n).take k))).length, bs (zb ((vbits V n).take k))⟩]) _ by
    exact PL.at [0, 5, 6] (hloop 0 (Nat.zero_le _)) (by simp (maxSteps := 3000000) (disch := omega) only [go_sem, ↓reduceIte, reduceCtorEq, pappend, plen]; simp [zb, bs]) (by simp [zb, bs])
  intro k hk
  have hl : (zb ((vbits V n).take k)).length = k := by rw [zb_len, List.length_take, vbits_len]; omega
  induction hm : n - k using Nat.strongRecOn generalizing k with
  | _ m ih =>
    refine PL.round ?_; (repeat refine PW.seq ?_); refine PW.rg rfl fun K hK => ?_; simp (maxSteps := 3000000) (disch := omega) only [go_sem, ↓reduceIte, reduceCtorEq, pappend, plen]; refine hK _ _ ?_; clear hK K
    (repeat refine PW.seq ?_); refine PW.cond (t := _) rfl (fun h => ?_) (fun h => ?_)
    · have h4 : k < n := by have := of_decide_eq_true h; omega
      have e1 : (n : Int) - 1 - (k : Int) = ((n - 1 - k : Nat) : Int) := by omega
      have htk := vbits_take V n k h4
      have hb1 := bs_zb1 (V / 2 ^ (n - 1 - k))
      have hmd : V / 2 ^ (n - 1 - k) % 2 < 2 := Nat.mod_lt _ (by omega)
      refine PW.skip ?_; (repeat refine PW.seq ?_); refine PW.block ?_
      (repeat refine PW.seq ?_); refine PW.rg rfl fun K hK => ?_; simp (maxSteps := 3000000) (disch := omega) only [go_sem, ↓reduceIte, reduceCtorEq, pappend, plen, e1, wu64, pshr_u32, pand1_u32, length_bs, hl]; refine hK _ _ ?_; clear hK K
      (repeat refine PW.seq ?_); refine PW.rg rfl fun K hK => ?_; simp (maxSteps := 3000000) (disch := omega) only [go_sem, ↓reduceIte, reduceCtorEq, pappend, plen]; refine hK _ _ ?_; clear hK K
      refine PL.at [0, 5, 6] (ih (n - (k + 1)) (by omega) (k + 1) (by omega) (by rw [zb_len, List.length_take, vbits_len]; omega) rfl) ?_ ?_
      · rw [htk, zb_append, bs_append, hb1]
        simp (maxSteps := 3000000) (disch := omega) only [go_sem, ↓reduceIte, reduceCtorEq, pappend, plen]
        have : ((n - 1 - k : Nat) : Int) - 1 = (n : Int) - 1 - ((k + 1 : Nat) : Int) := by omega
        rw [this]
      · rw [htk, zb_append, bs_append, hb1]
    · have h4 : k = n := by have := of_decide_eq_false h; omega
      subst h4
      have htk : (vbits V k).take k = vbits V k := List.take_of_length_le (by rw [vbits_len]; exact Nat.le_refl _)
      rw [htk] at hl ⊢
      refine PW.exit ?_
      (repeat refine PW.seq ?_); refine PW.rg rfl fun K hK => ?_; simp (maxSteps := 3000000) (disch := omega) only [go_sem, ↓reduceIte, reduceCtorEq, pappend, plen]; refine hK _ _ ?_; clear hK K
      exact PW.ret ⟨_, rfl, Fin.now⟩

/-- N bytes of some bits. -/
def pkf (N : Nat) (M : List Bool) : List UInt8 := (List.range N).map (pkB M)
theorem pkf_len (N : Nat) (M : List Bool) : (pkf N M).length = N := by simp [pkf]
theorem pkf_byt (N : Nat) (M : List Bool) (i : Nat) (h : i < N) : byt (pkf N M) i = (pkN M i : Int) := by
  simp [byt, pkf, h, pkB_nat]
theorem pkf_snoc (N : Nat) (M : List Bool) (b : Bool) (h : M.length / 8 < N) : pkf N (M ++ [b]) = (pkf N M).set (M.length / 8) (UInt8.ofNat (pkN M (M.length / 8) + b.toNat * 2 ^ (7 - M.length % 8))) := by
  apply List.ext_getElem?
  intro i
  rw [List.getElem?_set]
  by_cases hN : i < N
  · by_cases h2 : i = M.length / 8
    · subst h2
      rw [if_pos rfl, if_pos (by rw [pkf_len]; exact hN)]
      simp [pkf, hN, pkB, pkN_snoc M b (M.length / 8) (M.length % 8) (by omega) (Nat.mod_lt _ (by omega))]
    · rw [if_neg (by omega)]
      simp only [pkf, List.getElem?_map, List.getElem?_range hN, Option.map_some, pkB]
      congr 2
      rcases Nat.lt_or_gt_of_ne h2 with h3 | h3
      · exact pkN_snoc_ne M b (M.length / 8) i (by omega) h3
      · rw [pkN_zero (M ++ [b]) i (by simp; omega), pkN_zero M i (by omega)]
  · rw [List.getElem?_eq_none (by rw [pkf_len]; omega)]
    split
    · rename_i e; subst e; rw [if_neg (by rw [pkf_len]; omega)]
    · rw [List.getElem?_eq_none (by rw [pkf_len]; omega)]
theorem pkf_same (N : Nat) (M : List Bool) (h : M.length / 8 < N) : pkf N (M ++ [false]) = pkf N M := by
  rw [pkf_snoc N M false h]
  apply List.ext_getElem?
  intro i
  rw [List.getElem?_set]
  split
  · rename_i e; subst e
    rw [if_pos (by rw [pkf_len]; exact h)]
    simp [pkf, h, pkB]
  · rfl
theorem pkf_pk (l : List Bool) : pkf (l.length / 8 + 1) (l ++ [true]) = pk (l ++ [true]) := by
  unfold pkf pk
  rw [show ((l ++ [true]).length + 7) / 8 = l.length / 8 + 1 by simp; omega]
theorem pkf_nil (N : Nat) : bs (pkf N []) = reps N [.int .u8 0] := by
  have h1 : reps N [PV.int .u8 0] = List.replicate N (.int .u8 0) := by
    induction N with
    | zero => rfl
    | succ n ih => rw [List.replicate_succ, ← ih]; simp [reps, List.replicate_succ]
  have h2 : pkf N [] = List.replicate N 0 := by
    apply List.ext_getElem?
    intro i
    by_cases h : i < N
    · simp [pkf, h, pkB, pkN_zero [] i (by simp)]
    · rw [List.getElem?_eq_none (by rw [pkf_len]; omega), List.getElem?_eq_none (by simp; omega)]
  rw [h1, h2, bs_rep]

set_option maxRecDepth 10000 in
theorem payload_ref (l : List Bool) (f : Bool) (H : Heap) (hl : l.length ≤ 1000000000) :
    CallOk Tryz.prog 44 [.slice (bs (zb l)) l.length f] H (.slice (bs (pk (l ++ [true]))) (pk (l ++ [true])).length false) H := by
  obtain ⟨N, hN⟩ : ∃ N, N = l.length / 8 + 1 := ⟨_, rfl⟩
  have hpl1 : (pk (l ++ [true])).length = N := by rw [pk_len]; simp; omega
  have e5 : ((l.length / 8 : Nat) : Int) + 1 = (N : Int) := by omega
  refine CallOk.body (F0 := [(0, .slice (bs (zb l)) l.length f)]) Tryz.func44 rfl Tryz.ntmps44 Tryz.results44 rfl (by kernel_rfl) rfl ?_
  (repeat refine PW.seq ?_); refine PW.rg rfl fun K hK => ?_; simp (maxSteps := 3000000) (disch := omega) only [go_sem, ↓reduceIte, reduceCtorEq, pappend, plen]; refine hK _ _ ?_; clear hK K
  (repeat refine PW.seq ?_); refine PW.rg rfl fun K hK => ?_; simp (maxSteps := 3000000) (disch := omega) only [go_sem, ↓reduceIte, reduceCtorEq, pappend, plen, tdiv8, e5]; refine hK _ _ ?_; clear hK K
  (repeat refine PW.seq ?_); refine PW.rg rfl fun K hK => ?_; simp (maxSteps := 3000000) (disch := omega) only [go_sem, ↓reduceIte, reduceCtorEq, pappend, plen]; refine hK _ _ ?_; clear hK K
  (repeat refine PW.seq ?_); refine PW.block (PW.loop ?_)
  suffices hloop : ∀ (k : Nat), k ≤ l.length + 1 → PL Tryz.prog _ _ [(0, .slice (bs (zb l)) l.length f), (3, .msl H.length 0 0 N 1 true), (4, .int .i64 (k : Int))] (H ++ [⟨5, 0, bs (pkf N ((l ++ [true]).take k))⟩]) _ by
    exact PL.at [0, 3, 4] (hloop 0 (Nat.zero_le _)) rfl (by rw [List.take_zero, pkf_nil]; rfl)
  intro k hk
  induction hm : l.length + 1 - k using Nat.strongRecOn generalizing k with
  | _ m ih =>
    refine PL.round ?_; (repeat refine PW.seq ?_); refine PW.rg rfl fun K hK => ?_; simp (maxSteps := 3000000) (disch := omega) only [go_sem, ↓reduceIte, reduceCtorEq, pappend, plen]; refine hK _ _ ?_; clear hK K
    (repeat refine PW.seq ?_); refine PW.cond (t := _) rfl (fun h => ?_) (fun h => ?_)
    · have h4 : k ≤ l.length := by have := of_decide_eq_true h; omega
      have hM : ((l ++ [true]).take k).length = k := by simp; omega
      have hbit : bn (l ++ [true]) k = if k = l.length then 1 else bn l k := by rw [bn_snoc]; rfl
      obtain ⟨b, hb⟩ : ∃ b, b = (l ++ [true])[k]?.getD false := ⟨_, rfl⟩
      have hts : (l ++ [true]).take (k + 1) = (l ++ [true]).take k ++ [b] := by
        rw [List.take_succ_eq_append_getElem (by simp; omega), hb, List.getElem?_eq_getElem (by simp; omega)]; rfl
      have hbn : b.toNat = bn (l ++ [true]) k := by rw [hb]; rfl
      have hzb : k < l.length → byt (zb l) k = (b.toNat : Int) := fun hlt => by rw [zb_byt l k hlt, hbn, hbit, if_neg (by omega)]
      have hkN : k / 8 < N := by omega
      have hps := pkf_snoc N ((l ++ [true]).take k) b (by rw [hM]; exact hkN)
      have hpf := pkf_same N ((l ++ [true]).take k) (by rw [hM]; exact hkN)
      have hpb := pkf_byt N ((l ++ [true]).take k) (k / 8) hkN
      have hpk := pkN_lt ((l ++ [true]).take k) (k / 8)
      have hz := pkN_tail ((l ++ [true]).take k) (k / 8) (k % 8) (by rw [hM]; omega) (Nat.mod_lt _ (by omega))
      rw [show 8 - k % 8 = 7 - k % 8 + 1 by omega] at hz
      rw [hM] at hps
      have hnext := ih (l.length + 1 - (k + 1)) (by omega) (k + 1) (by omega) rfl
      rw [hts] at hnext
      generalize (l ++ [true]).take k = M at *
      have hpfl := pkf_len N M
      refine PW.skip ?_
      refine PW.to [0, 3, 4] [(0, .slice (bs (zb l)) l.length f), (3, .msl H.length 0 0 N 1 true), (4, .int .i64 (k : Int))] (H ++ [⟨5, 0, bs (pkf N (M ++ [b]))⟩]) ?_ ?_
      · (repeat refine PW.seq ?_); refine PW.block ?_
        (repeat refine PW.seq ?_)
        refine PW.rgv (P := Tryz.prog) [0, 3, 4] 26 (.bool b) ?_ ?_ ?_
        · rfl
        · rcases Nat.lt_or_ge k l.length with h5 | h5
          rotate_left
          · have h5 : k = l.length := by omega
            have hb1 : b = true := by rw [hbit, if_pos h5] at hbn; cases b <;> simp at hbn ⊢
            simp (maxSteps := 3000000) (disch := omega) only [go_sem, ↓reduceIte, reduceCtorEq, pappend, plen]; (repeat' ((first | refine VO_cond (fun h => ?_) (fun h => ?_) | refine VOd_cond (fun h => ?_) (fun h => ?_) | refine VOg_cond (fun h => ?_) (fun h => ?_) | refine VOh_cond (fun h => ?_) (fun h => ?_) | refine VOi_cond (fun h => ?_) (fun h => ?_) | refine And.intro (fun h => ?_) (fun h => ?_)) <;> (try simp only [Bool.not_eq_true', Bool.not_eq_false', decide_eq_true_eq, decide_eq_false_iff_not] at h) <;> simp (maxSteps := 3000000) (disch := omega) only [go_sem, ↓reduceIte, reduceCtorEq, pappend, plen, h]))
            all_goals (simp_all [slot, Nat.beq] <;> first | rfl | omega | (rw [Bool.eq_iff_iff]; simp; done) | (rw [Bool.eq_iff_iff]; simp; omega))
          · have h6 := hzb (by omega)
            have hg : (bs (zb l))[k]? = some (.int .u8 (b.toNat : Int)) := by rw [bs_get _ _ (by rw [zb_len]; exact h5), h6]
            simp (maxSteps := 3000000) (disch := omega) only [go_sem, ↓reduceIte, reduceCtorEq, pappend, plen, zb_len, length_bs, hg]; (repeat' ((first | refine VO_cond (fun h => ?_) (fun h => ?_) | refine VOd_cond (fun h => ?_) (fun h => ?_) | refine VOg_cond (fun h => ?_) (fun h => ?_) | refine VOh_cond (fun h => ?_) (fun h => ?_) | refine VOi_cond (fun h => ?_) (fun h => ?_) | refine And.intro (fun h => ?_) (fun h => ?_)) <;> (try simp only [Bool.not_eq_true', Bool.not_eq_false', decide_eq_true_eq, decide_eq_false_iff_not] at h) <;> simp (maxSteps := 3000000) (disch := omega) only [go_sem, ↓reduceIte, reduceCtorEq, pappend, plen, zb_len, length_bs, hg, h]))
            all_goals (clear hnext ih hps hpf hts; cases b <;> simp)
        (repeat refine PW.seq ?_); refine PW.cond (t := _) rfl (fun h => ?_) (fun h => ?_)
        · subst h
          generalize hq : k / 8 = q at *
          generalize hp : pkN M q = v at *
          have hs7 : 7 - k % 8 < 8 := by omega
          have hk8 : k % 8 < 8 := Nat.mod_lt _ (by omega)
          generalize hs : 7 - k % 8 = s at *
          have hsum : v + 2 ^ s < 256 := by
            have h3 : s = 0 ∨ s = 1 ∨ s = 2 ∨ s = 3 ∨ s = 4 ∨ s = 5 ∨ s = 6 ∨ s = 7 := by omega
            rcases h3 with h3 | h3 | h3 | h3 | h3 | h3 | h3 | h3
            all_goals (rw [h3] at hz ⊢; simp at hz ⊢; omega)
          (repeat refine PW.seq ?_); refine PW.rg rfl fun K hK => ?_; simp (maxSteps := 3000000) (disch := omega) only [go_sem, ↓reduceIte, reduceCtorEq, pappend, plen, tdiv8, tmod8, length_bs, hpfl, bs_get, hq, hs, hpb, wu64, pshr128, por1_u8, bs_setN]; refine hK _ _ ?_; clear hK K
          refine ⟨rfl, ?_⟩
          rw [hps, show true.toNat = 1 from rfl, Nat.one_mul]
        · subst h
          refine PW.skip ⟨rfl, ?_⟩
          rw [hpf]
      (repeat refine PW.seq ?_); refine PW.rg rfl fun K hK => ?_; simp (maxSteps := 3000000) (disch := omega) only [go_sem, ↓reduceIte, reduceCtorEq, pappend, plen]; refine hK _ _ ?_; clear hK K
      exact PL.at [0, 3, 4] hnext rfl rfl
    · have h4 : k = l.length + 1 := by have := of_decide_eq_false h; omega
      subst h4
      rw [List.take_of_length_le (by simp), hN, pkf_pk]
      rw [hN] at hpl1
      refine PW.exit ?_
      (repeat refine PW.seq ?_); refine PW.rg rfl fun K hK => ?_; simp (maxSteps := 3000000) (disch := omega) only [go_sem, ↓reduceIte, reduceCtorEq, pappend, plen]; refine hK _ _ ?_; clear hK K
      refine PW.ret ⟨_, rfl, ?_⟩
      simp only [slot, Nat.beq]
      rw [hpl1]
      exact Fin.base (Fz.mslC (e := 5) (xs := bs (pk (l ++ [true]))) (Nat.le_refl _) (by simp) (by rw [length_bs, hpl1]; omega) (FzC.refl (bs_scoped _ _)))

end Go.Proofs.YtnnkohejhnjflaaGreatDoor.Sc
