/-
  Contracts of package bitio: the writer.
-/
import Derived.Test.YtahomnplappbpaaGreatDoorBt
namespace Go.Proofs.YtahomnplappbpaaGreatDoor.Sc
set_option linter.all false
set_option linter.unusedVariables false
set_option linter.unusedSimpArgs false
open Pm Ty Go.RowKit

/-- Two blocks of a heap, set. -/
def two (H : Heap) (i j : Nat) (A B : Blk) : Heap := (H.set i A).set j B
theorem two_0 (H : Heap) (i j : Nat) (A B : Blk) (h : i < H.length ∧ i ≠ j) : (two H i j A B)[i]? = some A := by
  unfold two; rw [List.getElem?_set_ne (by omega)]; simp [h.1]
theorem two_1 (H : Heap) (i j : Nat) (A B : Blk) (h : j < H.length) : (two H i j A B)[j]? = some B := by
  unfold two; simp [h]
theorem two_s0 (H : Heap) (i j : Nat) (A B X : Blk) (h : i ≠ j) : (two H i j A B).set i X = two H i j X B := by
  unfold two; rw [List.set_comm _ _ (by omega), List.set_set]
theorem two_s1 (H : Heap) (i j : Nat) (A B X : Blk) : (two H i j A B).set j X = two H i j A X := by
  unfold two; rw [List.set_set]
theorem two_len (H : Heap) (i j : Nat) (A B : Blk) : (two H i j A B).length = H.length := by simp [two]
theorem set_self {H : Heap} {i : Nat} {A : Blk} (h : H[i]? = some A) : H.set i A = H := by
  apply List.ext_getElem?
  intro j
  rw [List.getElem?_set]
  split
  · rename_i e; subst e
    split
    · exact h.symm
    · rename_i hn; exact absurd (List.getElem?_eq_some_iff.1 h).1 hn
  · rfl
theorem two_self {H : Heap} {i j : Nat} {A B : Blk} (h : H[i]? = some A) (h' : H[j]? = some B) : two H i j A B = H := by
  unfold two; rw [set_self h, set_self h']

theorem tmod8 (x : Nat) : (x : Int).tmod 8 = ((x % 8 : Nat) : Int) := tmodN x 8
theorem tdiv8 (x : Nat) : (x : Int).tdiv 8 = ((x / 8 : Nat) : Int) := tdivN x 8
theorem bs_setN (b : List UInt8) (i n : Nat) (h : n < 256) : (bs b).set i (.int .u8 (n : Int)) = bs (b.set i (UInt8.ofNat n)) := by
  rw [← bs_set]; congr 2; simp; omega

/-- The bytes, once there is room for one bit more. -/
def roomy (L : List Bool) : List UInt8 := if L.length % 8 = 0 then pk L ++ [0] else pk L
theorem roomy_len (L : List Bool) : (roomy L).length = L.length / 8 + 1 := by
  unfold roomy; split
  · simp [pk_len]; omega
  · rw [pk_len]; omega
theorem pkN_zero (l : List Bool) (i : Nat) (h : l.length ≤ 8 * i) : pkN l i = 0 := by
  unfold pkN
  rw [bn_out l (8 * i) (by omega), bn_out l (8 * i + 1) (by omega), bn_out l (8 * i + 2) (by omega), bn_out l (8 * i + 3) (by omega), bn_out l (8 * i + 4) (by omega), bn_out l (8 * i + 5) (by omega), bn_out l (8 * i + 6) (by omega), bn_out l (8 * i + 7) (by omega)]
theorem roomy_byt (L : List Bool) : byt (roomy L) (L.length / 8) = (pkN L (L.length / 8) : Int) := by
  unfold roomy; split
  · rename_i h
    rw [pkN_zero L _ (by omega)]
    unfold byt
    simp only [List.getD]
    rw [List.getElem?_append_right (by rw [pk_len]; omega), pk_len, show L.length / 8 - (L.length + 7) / 8 = 0 by omega]
    rfl
  · exact pk_byt L _ (by omega)
theorem roomy_set (L : List Bool) (b : Bool) : (roomy L).set (L.length / 8) (UInt8.ofNat (pkN L (L.length / 8) + b.toNat * 2 ^ (7 - L.length % 8))) = pk (L ++ [b]) := by
  unfold roomy; split
  · rename_i h
    rw [pkN_zero L _ (by omega), h, pk_snoc0 L b (L.length / 8) (by omega), List.set_append_right _ _ (by rw [pk_len]; omega), pk_len, show L.length / 8 - (L.length + 7) / 8 = 0 by omega]
    simp
  · rename_i h
    rw [pk_snoc1 L b (L.length / 8) (L.length % 8) (by omega) (by omega) (by omega)]

def wA (j : Nat) (l : List Bool) : Blk := ⟨192, 0, [.msl j (bs (pk l)).length 0 (pk l).length 1 true, .int .i64 (l.length : Int)]⟩
def wB (l : List Bool) : Blk := ⟨5, (bs (pk l)).length, bs (pk l)⟩

theorem put_ok (i j : Nat) (l : List Bool) (V n : Nat) (H : Heap) (hA : H[i]? = some (wA j l)) (hB : H[j]? = some (wB l)) (hne : i ≠ j) (hn : n ≤ 32) (hV : V / 2 ^ n = 0) (hl : l.length ≤ 1000000000) :
    CallOk Tryz.prog 114 [.ptr i 0 0, .int .u32 (V : Int), .int .i64 (n : Int)] H (.int .i64 0) (two H i j (wA j (l ++ vbits V n)) (wB (l ++ vbits V n))) := by
  have hi := (List.getElem?_eq_some_iff.1 hA).1
  have hj := (List.getElem?_eq_some_iff.1 hB).1
  have hself := two_self hA hB
  refine CallOk.body (F0 := [(0, .ptr i 0 0), (1, .int .u32 (V : Int)), (2, .int .i64 (n : Int))]) Tryz.func114 rfl Tryz.ntmps114 Tryz.results114 rfl (by kernel_rfl) rfl ?_
  refine PW.eq rfl hself.symm ?_
  (repeat refine PW.seq ?_); refine PW.rg rfl fun K hK => ?_; simp (maxSteps := 3000000) (disch := omega) only [go_sem, ↓reduceIte, reduceCtorEq, pappend, plen]; refine hK _ _ ?_; clear hK K
  have e0 : ((V / 2 ^ n : Nat) : Int) = 0 := by rw [hV]; rfl
  (repeat' (first | refine PW.seq ?_ | refine PW.skip ?_ | refine PW.block ?_ | (refine PW.rg rfl fun K hK => ?_; simp (maxSteps := 3000000) (disch := omega) only [go_sem, ↓reduceIte, reduceCtorEq, pappend, plen, two_0, two_1, wA, pshr_u32, e0]) | (refine PW.draw mix (by kernel_rfl) fun K hK => ?_; simp (maxSteps := 3000000) (disch := omega) only [go_sem, ↓reduceIte, reduceCtorEq, pappend, plen, two_0, two_1, wA, pshr_u32, e0]) | (refine PW.drawg mix (by kernel_rfl) fun K hK => ?_; simp (maxSteps := 3000000) (disch := omega) only [go_sem, ↓reduceIte, reduceCtorEq, pappend, plen, two_0, two_1, wA, pshr_u32, e0]) | (refine PW.drawt [] [] mix (by kernel_rfl) fun K hK => ?_; simp (maxSteps := 3000000) (disch := omega) only [go_sem, ↓reduceIte, reduceCtorEq, pappend, plen, two_0, two_1, wA, pshr_u32, e0]) | ((first | refine VO_cond (fun h => ?_) (fun h => ?_) | refine VOd_cond (fun h => ?_) (fun h => ?_) | refine VOg_cond (fun h => ?_) (fun h => ?_) | refine VOh_cond (fun h => ?_) (fun h => ?_) | refine VOi_cond (fun h => ?_) (fun h => ?_) | refine And.intro (fun h => ?_) (fun h => ?_)) <;> (try simp only [Bool.not_eq_true', Bool.not_eq_false', decide_eq_true_eq, decide_eq_false_iff_not] at h) <;> simp (maxSteps := 3000000) (disch := omega) only [go_sem, ↓reduceIte, reduceCtorEq, pappend, plen, two_0, two_1, wA, pshr_u32, e0, h]) | (refine hK _ _ ?_; clear hK K) | (refine PW.cond (t := _) rfl (fun h => ?_) (fun h => ?_) <;> (try (cases h; done)) <;> (try simp only [Bool.not_eq_true', Bool.not_eq_false', decide_eq_true_eq, decide_eq_false_iff_not] at h))))
  refine PW.loop ?_
  suffices hloop : ∀ (k : Nat) (L : List Bool), k ≤ n → L = l ++ (vbits V n).take k → PL Tryz.prog _ _ [(0, .ptr i 0 0), (1, .int .u32 (V : Int)), (2, .int .i64 (n : Int)), (23, .int .i64 (n : Int)), (24, .int .i64 (k : Int))] (two H i j (wA j L) (wB L)) _ by
    exact PL.at [0, 1, 2, 23, 24] (hloop 0 l (Nat.zero_le _) (by simp)) rfl rfl
  intro k L hk hL
  have hLl : L.length = l.length + k := by rw [hL, List.length_append, List.length_take, vbits_len]; omega
  induction hm : n - k using Nat.strongRecOn generalizing k L with
  | _ m ih =>
    refine PL.round ?_; (repeat refine PW.seq ?_); refine PW.rg rfl fun K hK => ?_; simp (maxSteps := 3000000) (disch := omega) only [go_sem, ↓reduceIte, reduceCtorEq, pappend, plen]; refine hK _ _ ?_; clear hK K
    (repeat refine PW.seq ?_); refine PW.cond (t := _) rfl (fun h => ?_) (fun h => ?_)
    · have h4 : k < n := by have := of_decide_eq_true h; omega
      have hsn : l ++ (vbits V n).take (k + 1) = L ++ [decide (V / 2 ^ (n - 1 - k) % 2 = 1)] := by rw [vbits_take V n k h4, hL, List.append_assoc]
      have hL1 : (L ++ [decide (V / 2 ^ (n - 1 - k) % 2 = 1)]).length = l.length + (k + 1) := by simp [hLl]; omega
      have hnext := ih (n - (k + 1)) (by omega) (k + 1) _ (by omega) hsn.symm hL1 rfl
      have hbt := bit_toNat (V / 2 ^ (n - 1 - k))
      have e1 : (n : Int) - 1 - (k : Int) = ((n - 1 - k : Nat) : Int) := by omega
      have hmd : V / 2 ^ (n - 1 - k) % 2 < 2 := Nat.mod_lt _ (by omega)
      refine PW.skip ?_; (repeat refine PW.seq ?_); refine PW.block ?_
      (repeat refine PW.seq ?_); refine PW.rg rfl fun K hK => ?_; simp (maxSteps := 3000000) (disch := omega) only [go_sem, ↓reduceIte, reduceCtorEq, pappend, plen]; refine hK _ _ ?_; clear hK K
      refine PW.to [0, 1, 2, 7, 23, 24] [(0, .ptr i 0 0), (1, .int .u32 (V : Int)), (2, .int .i64 (n : Int)), (7, .int .i64 (k : Int)), (23, .int .i64 (n : Int)), (24, .int .i64 (k : Int))]
        (two H i j ⟨192, 0, [.msl j (bs (roomy L)).length 0 (roomy L).length 1 true, .int .i64 (L.length : Int)]⟩ ⟨5, (bs (roomy L)).length, bs (roomy L)⟩) ?_ ?_
      · (repeat refine PW.seq ?_); refine PW.rg rfl fun K hK => ?_; simp (maxSteps := 3000000) (disch := omega) only [go_sem, ↓reduceIte, reduceCtorEq, pappend, plen, two_0, two_1, wA, tmod8]; refine hK _ _ ?_; clear hK K
        (repeat refine PW.seq ?_); refine PW.cond (t := _) rfl (fun h => ?_) (fun h => ?_)
        · have h5 : L.length % 8 = 0 := by simp at h; omega
          have hpl := pk_len L
          (repeat refine PW.seq ?_); refine PW.rg rfl fun K hK => ?_; simp (maxSteps := 3000000) (disch := omega) only [go_sem, ↓reduceIte, reduceCtorEq, pappend, plen, two_0, two_1, two_s0, two_s1, wA, wB, length_bs, two_len]; refine hK _ _ ?_; clear hK K
          have e2 : roomy L = pk L ++ [0] := by unfold roomy; rw [if_pos h5]
          refine ⟨by simp [kp, slot, Nat.beq], ?_⟩
          rw [e2, bs_append]
          simp [bs, length_bs]
        · have h5 : ¬ L.length % 8 = 0 := by simp at h; omega
          have e2 : roomy L = pk L := by unfold roomy; rw [if_neg h5]
          refine PW.skip ⟨by simp [kp, slot, Nat.beq], ?_⟩
          rw [e2]; rfl
      (repeat refine PW.seq ?_); refine PW.rg rfl fun K hK => ?_; simp (maxSteps := 3000000) (disch := omega) only [go_sem, ↓reduceIte, reduceCtorEq, pappend, plen, e1, pshr_u32, pand1_u32]; refine hK _ _ ?_; clear hK K
      have hrl := roomy_len L
      have hrb := roomy_byt L
      have hrs := roomy_set L (decide (V / 2 ^ (n - 1 - k) % 2 = 1))
      rw [hbt] at hrs
      have hpk := pkN_lt L (L.length / 8)
      have hz := pkN_tail L (L.length / 8) (L.length % 8) (by omega) (Nat.mod_lt _ (by omega))
      rw [show 8 - L.length % 8 = 7 - L.length % 8 + 1 by omega] at hz
      have hr8 : L.length % 8 < 8 := Nat.mod_lt _ (by omega)
      have e3 : (7 : Int) - ((L.length % 8 : Nat) : Int) = ((7 - L.length % 8 : Nat) : Int) := by omega
      generalize V / 2 ^ (n - 1 - k) % 2 = c at *
      generalize hq : L.length / 8 = q at *
      generalize hp : pkN L q = v at *
      generalize hs : 7 - L.length % 8 = s at *
      have hs7 : s < 8 := by omega
      have hsum : v + c * 2 ^ s < 256 := by
        have h2 : c * 2 ^ s ≤ 1 * 2 ^ s := Nat.mul_le_mul_right _ (by omega)
        have h3 : s = 0 ∨ s = 1 ∨ s = 2 ∨ s = 3 ∨ s = 4 ∨ s = 5 ∨ s = 6 ∨ s = 7 := by omega
        rcases h3 with h3 | h3 | h3 | h3 | h3 | h3 | h3 | h3
        all_goals (rw [h3] at hz h2 ⊢; simp at hz h2 ⊢; omega)
      have hsh : c * 2 ^ s < 256 := by omega
      (repeat refine PW.seq ?_); refine PW.draw mix (by kernel_rfl) fun K hK => ?_; simp (maxSteps := 3000000) (disch := omega) only [go_sem, ↓reduceIte, reduceCtorEq, pappend, plen, two_0, two_1, two_s0, two_s1, two_len, length_bs, tmod8, tdiv8, hq, hs, e3, bs_get, hrb, pshl_u8, por_u8, bs_setN]; refine hK _ _ ?_; clear hK K
      (repeat refine PW.seq ?_); refine PW.rg rfl fun K hK => ?_; simp (maxSteps := 3000000) (disch := omega) only [go_sem, ↓reduceIte, reduceCtorEq, pappend, plen, two_0, two_1, two_s0, two_s1, two_len]; refine hK _ _ ?_; clear hK K
      (repeat refine PW.seq ?_); refine PW.rg rfl fun K hK => ?_; simp (maxSteps := 3000000) (disch := omega) only [go_sem, ↓reduceIte, reduceCtorEq, pappend, plen]; refine hK _ _ ?_; clear hK K
      refine PL.at [0, 1, 2, 23, 24] hnext rfl ?_
      rw [wA, wB, ← hrs]
      simp [length_bs, List.length_set]
    · have h4 : k = n := by have := of_decide_eq_false h; omega
      subst h4
      rw [List.take_of_length_le (by rw [vbits_len]; exact Nat.le_refl _)] at hL
      refine PW.exit ?_
      (repeat refine PW.seq ?_); refine PW.rg rfl fun K hK => ?_; simp (maxSteps := 3000000) (disch := omega) only [go_sem, ↓reduceIte, reduceCtorEq, pappend, plen]; refine hK _ _ ?_; clear hK K
      subst hL
      exact PW.ret ⟨_, rfl, Fin.now⟩

end Go.Proofs.YtahomnplappbpaaGreatDoor.Sc
