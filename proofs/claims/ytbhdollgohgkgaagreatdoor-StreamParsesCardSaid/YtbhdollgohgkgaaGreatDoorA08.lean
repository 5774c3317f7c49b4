/-
  Parts of the proof. No condition.
-/
import Derived.Test.YtbhdollgohgkgaaGreatDoorA06
namespace Go.Proofs.YtbhdollgohgkgaaGreatDoor.Sc
set_option linter.all false
set_option linter.unusedVariables false
set_option linter.unusedSimpArgs false
open Pm Ty Go.RowKit

def bn (l : List Bool) (k : Nat) : Nat := (l[k]?.getD false).toNat
theorem bn_lt (l : List Bool) (k : Nat) : bn l k < 2 := by unfold bn; cases l[k]?.getD false <;> decide
theorem bn_out (l : List Bool) (k : Nat) (h : l.length ≤ k) : bn l k = 0 := by simp [bn, List.getElem?_eq_none h]
theorem bn_snoc (l : List Bool) (b : Bool) (k : Nat) : bn (l ++ [b]) k = if k = l.length then b.toNat else bn l k := by
  unfold bn
  by_cases h : k < l.length
  · rw [List.getElem?_append_left h, if_neg (by omega)]
  · by_cases h2 : k = l.length
    · subst h2; simp
    · rw [if_neg h2, List.getElem?_eq_none (by simp; omega), List.getElem?_eq_none (by omega)]
/-- Byte i. -/
def pkN (l : List Bool) (i : Nat) : Nat := 128 * bn l (8 * i) + 64 * bn l (8 * i + 1) + 32 * bn l (8 * i + 2) + 16 * bn l (8 * i + 3) + 8 * bn l (8 * i + 4) + 4 * bn l (8 * i + 5) + 2 * bn l (8 * i + 6) + bn l (8 * i + 7)
theorem pkN_lt (l : List Bool) (i : Nat) : pkN l i < 256 := by
  unfold pkN
  have h0 := bn_lt l (8 * i); have h1 := bn_lt l (8 * i + 1); have h2 := bn_lt l (8 * i + 2); have h3 := bn_lt l (8 * i + 3)
  have h4 := bn_lt l (8 * i + 4); have h5 := bn_lt l (8 * i + 5); have h6 := bn_lt l (8 * i + 6); have h7 := bn_lt l (8 * i + 7)
  omega
def pkB (l : List Bool) (i : Nat) : UInt8 := UInt8.ofNat (pkN l i)
theorem pkB_nat (l : List Bool) (i : Nat) : (pkB l i).toNat = pkN l i := by have := pkN_lt l i; simp [pkB]; omega
/-- The bytes of some bits; what is missing is 0. -/
def pk (l : List Bool) : List UInt8 := (List.range ((l.length + 7) / 8)).map (pkB l)
theorem pk_len (l : List Bool) : (pk l).length = (l.length + 7) / 8 := by simp [pk]
theorem pk_get (l : List Bool) (i : Nat) (h : i < (l.length + 7) / 8) : (pk l)[i]? = some (pkB l i) := by simp [pk, h]
theorem pk_byt (l : List Bool) (i : Nat) (h : i < (l.length + 7) / 8) : byt (pk l) i = (pkN l i : Int) := by
  simp [byt, pk_get l i h, pkB_nat]
/-- The bits of a byte behind the last one are 0. -/
theorem pkN_tail (l : List Bool) (q r : Nat) (h : l.length = 8 * q + r) (hr : r < 8) : pkN l q % 2 ^ (8 - r) = 0 := by
  unfold pkN
  have hz : ∀ j, r ≤ j → bn l (8 * q + j) = 0 := fun j hj => bn_out l _ (by omega)
  have : r = 0 ∨ r = 1 ∨ r = 2 ∨ r = 3 ∨ r = 4 ∨ r = 5 ∨ r = 6 ∨ r = 7 := by omega
  rcases this with rfl | rfl | rfl | rfl | rfl | rfl | rfl | rfl
  · rw [← Nat.add_zero (8 * q), hz 0 (by omega), Nat.add_zero, hz 1 (by omega), hz 2 (by omega), hz 3 (by omega), hz 4 (by omega), hz 5 (by omega), hz 6 (by omega), hz 7 (by omega)]
  · rw [hz 1 (by omega), hz 2 (by omega), hz 3 (by omega), hz 4 (by omega), hz 5 (by omega), hz 6 (by omega), hz 7 (by omega)]; omega
  · rw [hz 2 (by omega), hz 3 (by omega), hz 4 (by omega), hz 5 (by omega), hz 6 (by omega), hz 7 (by omega)]; omega
  · rw [hz 3 (by omega), hz 4 (by omega), hz 5 (by omega), hz 6 (by omega), hz 7 (by omega)]; omega
  · rw [hz 4 (by omega), hz 5 (by omega), hz 6 (by omega), hz 7 (by omega)]; omega
  · rw [hz 5 (by omega), hz 6 (by omega), hz 7 (by omega)]; omega
  · rw [hz 6 (by omega), hz 7 (by omega)]; omega
  · rw [hz 7 (by omega)]; omega
/-- One bit more. -/
theorem pkN_snoc (l : List Bool) (b : Bool) (q r : Nat) (h : l.length = 8 * q + r) (hr : r < 8) : pkN (l ++ [b]) q = pkN l q + b.toNat * 2 ^ (7 - r) := by
  unfold pkN
  simp only [bn_snoc, h]
  have hz : bn l (8 * q + r) = 0 := bn_out l _ (by omega)
  have : r = 0 ∨ r = 1 ∨ r = 2 ∨ r = 3 ∨ r = 4 ∨ r = 5 ∨ r = 6 ∨ r = 7 := by omega
  rcases this with rfl | rfl | rfl | rfl | rfl | rfl | rfl | rfl
  all_goals simp only [Nat.add_zero] at hz ⊢
  all_goals simp (disch := omega) only [if_neg, if_true, hz, Nat.reducePow, Nat.reduceSub]
  all_goals omega
theorem pkN_snoc_ne (l : List Bool) (b : Bool) (q i : Nat) (h : 8 * q ≤ l.length) (hi : i < q) : pkN (l ++ [b]) i = pkN l i := by
  unfold pkN
  simp (disch := omega) only [bn_snoc, if_neg]
theorem pk_snoc0 (l : List Bool) (b : Bool) (q : Nat) (h : l.length = 8 * q) : pk (l ++ [b]) = pk l ++ [UInt8.ofNat (b.toNat * 128)] := by
  apply List.ext_getElem?
  intro i
  by_cases h1 : i < q
  · rw [pk_get _ i (by simp; omega), List.getElem?_append_left (by rw [pk_len]; omega), pk_get _ i (by omega)]
    simp only [pkB, pkN_snoc_ne l b q i (by omega) h1]
  · by_cases h2 : i = q
    · subst h2
      rw [pk_get _ i (by simp; omega), List.getElem?_append_right (by rw [pk_len]; omega), pk_len, show i - (l.length + 7) / 8 = 0 by omega]
      have h0 : pkN l i = 0 := by
        unfold pkN
        rw [bn_out l (8 * i) (by omega), bn_out l (8 * i + 1) (by omega), bn_out l (8 * i + 2) (by omega), bn_out l (8 * i + 3) (by omega), bn_out l (8 * i + 4) (by omega), bn_out l (8 * i + 5) (by omega), bn_out l (8 * i + 6) (by omega), bn_out l (8 * i + 7) (by omega)]
      have := pkN_snoc l b i 0 (by omega) (by omega)
      simp [pkB, this, h0]
    · rw [List.getElem?_eq_none (by rw [pk_len]; simp; omega), List.getElem?_eq_none (by simp [pk_len]; omega)]
theorem pk_snoc1 (l : List Bool) (b : Bool) (q r : Nat) (h : l.length = 8 * q + r) (hr0 : 0 < r) (hr : r < 8) : pk (l ++ [b]) = (pk l).set q (UInt8.ofNat (pkN l q + b.toNat * 2 ^ (7 - r))) := by
  apply List.ext_getElem?
  intro i
  rw [List.getElem?_set]
  by_cases h1 : i < q
  · rw [if_neg (by omega), pk_get _ i (by simp; omega), pk_get _ i (by omega)]
    simp only [pkB, pkN_snoc_ne l b q i (by omega) h1]
  · by_cases h2 : i = q
    · subst h2
      rw [if_pos rfl, if_pos (by rw [pk_len]; omega), pk_get _ i (by simp; omega)]
      simp only [pkB, pkN_snoc l b i r h hr]
    · rw [if_neg (by omega), List.getElem?_eq_none (by rw [pk_len]; simp; omega), List.getElem?_eq_none (by rw [pk_len]; omega)]

/-- The n last bits of V, the most significant first. -/
def vbits (V n : Nat) : List Bool := (List.range n).map fun i => decide (V / 2 ^ (n - 1 - i) % 2 = 1)
theorem vbits_len (V n : Nat) : (vbits V n).length = n := by simp [vbits]
theorem vbits_take (V n i : Nat) (h : i < n) : (vbits V n).take (i + 1) = (vbits V n).take i ++ [decide (V / 2 ^ (n - 1 - i) % 2 = 1)] := by
  rw [List.take_succ_eq_append_getElem (by rw [vbits_len]; exact h)]
  simp [vbits]
theorem bit_toNat (m : Nat) : (decide (m % 2 = 1)).toNat = m % 2 := by
  rcases Nat.mod_two_eq_zero_or_one m with h | h <;> simp [h]

end Go.Proofs.YtbhdollgohgkgaaGreatDoor.Sc

namespace Go.Proofs.YtbhdollgohgkgaaGreatDoor.Sc
set_option linter.all false
set_option linter.unusedVariables false
set_option linter.unusedSimpArgs false
open Pm Ty Go.RowKit

/-- Two blocks of a heap, set. -/
def two (H : Heap) (i j : Nat) (A B : Blk) : Heap := (H.set i A).set j B
theorem two_0 (H : Heap) (i j : Nat) (A B : Blk) (h : i < H.length ∧ i ≠ j) : (two H i j A B)[i]? = some A := by
  unfold two; rw [List.getElem?_set_ne (by omega)]; simp [h.1]
theorem two_1 (H : Heap) (i j : Nat) (A B : Blk) (h : j < H.length) : (two H i j A B)[j]? = some B := by
  unfold two; simp [h]
theorem two_s0 (H : Heap) (i j : Nat) (A B X : Blk) (h : i ≠ j) : (two H i j A B).set i X = two H i j X B := by
  unfold two; rw [List.set_comm _ _ (by omega), List.set_set]
theorem two_s1 (H : Heap) (i j : Nat) (A B X : Blk) : (two H i j A B).set j X = two H i j A X := by
  unfold two; rw [List.set_set]
theorem two_len (H : Heap) (i j : Nat) (A B : Blk) : (two H i j A B).length = H.length := by simp [two]
theorem set_self {H : Heap} {i : Nat} {A : Blk} (h : H[i]? = some A) : H.set i A = H := by
  apply List.ext_getElem?
  intro j
  rw [List.getElem?_set]
  split
  · rename_i e; subst e
    split
    · exact h.symm
    · rename_i hn; exact absurd (List.getElem?_eq_some_iff.1 h).1 hn
  · rfl
theorem two_self {H : Heap} {i j : Nat} {A B : Blk} (h : H[i]? = some A) (h' : H[j]? = some B) : two H i j A B = H := by
  unfold two; rw [set_self h, set_self h']

theorem tmod8 (x : Nat) : (x : Int).tmod 8 = ((x % 8 : Nat) : Int) := tmodN x 8
theorem tdiv8 (x : Nat) : (x : Int).tdiv 8 = ((x / 8 : Nat) : Int) := tdivN x 8
theorem bs_setN (b : List UInt8) (i n : Nat) (h : n < 256) : (bs b).set i (.int .u8 (n : Int)) = bs (b.set i (UInt8.ofNat n)) := by
  rw [← bs_set]; congr 2; simp; omega

/-- The bytes, once there is room for one bit more. -/
def roomy (L : List Bool) : List UInt8 := if L.length % 8 = 0 then pk L ++ [0] else pk L
theorem roomy_len (L : List Bool) : (roomy L).length = L.length / 8 + 1 := by
  unfold roomy; split
  · simp [pk_len]; omega
  · rw [pk_len]; omega
theorem pkN_zero (l : List Bool) (i : Nat) (h : l.length ≤ 8 * i) : pkN l i = 0 := by
  unfold pkN
  rw [bn_out l (8 * i) (by omega), bn_out l (8 * i + 1) (by omega), bn_out l (8 * i + 2) (by omega), bn_out l (8 * i + 3) (by omega), bn_out l (8 * i + 4) (by omega), bn_out l (8 * i + 5) (by omega), bn_out l (8 * i + 6) (by omega), bn_out l (8 * i + 7) (by omega)]
theorem roomy_byt (L : List Bool) : byt (roomy L) (L.length / 8) = (pkN L (L.length / 8) : Int) := by
  unfold roomy; split
  · rename_i h
    rw [pkN_zero L _ (by omega)]
    unfold byt
    simp only [List.getD]
    rw [List.getElem?_append_right (by rw [pk_len]; omega), pk_len, show L.length / 8 - (L.length + 7) / 8 = 0 by omega]
    rfl
  · exact pk_byt L _ (by omega)
theorem roomy_set (L : List Bool) (b : Bool) : (roomy L).set (L.length / 8) (UInt8.ofNat (pkN L (L.length / 8) + b.toNat * 2 ^ (7 - L.length % 8))) = pk (L ++ [b]) := by
  unfold roomy; split
  · rename_i h
    rw [pkN_zero L _ (by omega), h, pk_snoc0 L b (L.length / 8) (by omega), List.set_append_right _ _ (by rw [pk_len]; omega), pk_len, show L.length / 8 - (L.length + 7) / 8 = 0 by omega]
    simp
  · rename_i h
    rw [pk_snoc1 L b (L.length / 8) (L.length % 8) (by omega) (by omega) (by omega)]

def wA (j : Nat) (l : List Bool) : Blk := ⟨167, 0, [.msl j (bs (pk l)).length 0 (pk l).length 1 true, .int .i64 (l.length : Int)]⟩
def wB (l : List Bool) : Blk := ⟨5, (bs (pk l)).length, bs (pk l)⟩

theorem put_ok (i j : Nat) (l : List Bool) (V n : Nat) (H : Heap) (hA : H[i]? = some (wA j l)) (hB : H[j]? = some (wB l)) (hne : i ≠ j) (hn : n ≤ 32) (hV : V / 2 ^ n = 0) (hl : l.length ≤ 1000000000) :
    CallOk Tryz.prog 95 [.ptr i 0 0, .int .u32 (V : Int), .int .i64 (n : Int)] H (.int .i64 0) (two H i j (wA j (l ++ vbits V n)) (wB (l ++ vbits V n))) := by
  have hi := (List.getElem?_eq_some_iff.1 hA).1
  have hj := (List.getElem?_eq_some_iff.1 hB).1
  have hself := two_self hA hB
  refine CallOk.body (F0 := [(0, .ptr i 0 0), (1, .int .u32 (V : Int)), (2, .int .i64 (n : Int))]) Tryz.func95 rfl Tryz.ntmps95 Tryz.results95 rfl (by kernel_rfl) rfl ?_
  refine PW.eq rfl hself.symm ?_
  (repeat refine PW.seq ?_); refine PW.rg rfl fun K hK => ?_; simp (maxSteps := 3000000) (disch := omega) only [go_sem, ↓reduceIte, reduceCtorEq, pappend, plen]; refine hK _ _ ?_; clear hK K
  have e0 : ((V / 2 ^ n : Nat) : Int) = 0 := by rw [hV]; rfl
  (repeat' (first | refine PW.seq ?_ | refine PW.skip ?_ | refine PW.block ?_ | (refine PW.rg rfl fun K hK => ?_; simp (maxSteps := 3000000) (disch := omega) only [go_sem, ↓reduceIte, reduceCtorEq, pappend, plen, two_0, two_1, wA, pshr_u32, e0]) | (refine PW.draw mix (by kernel_rfl) fun K hK => ?_; simp (maxSteps := 3000000) (disch := omega) only [go_sem, ↓reduceIte, reduceCtorEq, pappend, plen, two_0, two_1, wA, pshr_u32, e0]) | (refine PW.drawg mix (by kernel_rfl) fun K hK => ?_; simp (maxSteps := 3000000) (disch := omega) only [go_sem, ↓reduceIte, reduceCtorEq, pappend, plen, two_0, two_1, wA, pshr_u32, e0]) | (refine PW.drawt [] [] mix (by kernel_rfl) fun K hK => ?_; simp (maxSteps := 3000000) (disch := omega) only [go_sem, ↓reduceIte, reduceCtorEq, pappend, plen, two_0, two_1, wA, pshr_u32, e0]) | ((first | refine VO_cond ?_ ?_ | refine VOd_cond ?_ ?_ | refine VOg_cond ?_ ?_ | refine VOh_cond ?_ ?_ | refine VOi_cond ?_ ?_ | refine And.intro ?_ ?_) <;> intro h <;> (try simp only [Bool.not_eq_true', Bool.not_eq_false', decide_eq_true_eq, decide_eq_false_iff_not] at h) <;> simp (maxSteps := 3000000) (disch := omega) only [go_sem, ↓reduceIte, reduceCtorEq, pappend, plen, two_0, two_1, wA, pshr_u32, e0, h]) | (refine hK _ _ ?_; clear hK K) | (refine PW.cond (t := _) rfl (fun h => ?_) (fun h => ?_) <;> (try (cases h; done)) <;> (try simp only [Bool.not_eq_true', Bool.not_eq_false', decide_eq_true_eq, decide_eq_false_iff_not] at h))))
  refine PW.loop ?_
  suffices hloop : ∀ (k : Nat) (L : List Bool), k ≤ n → L = l ++ (vbits V n).take k → PL Tryz.prog _ _ [(0, .ptr i 0 0), (1, .int .u32 (V : Int)), (2, .int .i64 (n : Int)), (23, .int .i64 (n : Int)), (24, .int .i64 (k : Int))] (two H i j (wA j L) (wB L)) _ by
    exact PL.at [0, 1, 2, 23, 24] (hloop 0 l (Nat.zero_le _) (by simp)) rfl rfl
  intro k L hk hL
  have hLl : L.length = l.length + k := by rw [hL, List.length_append, List.length_take, vbits_len]; omega
  induction hm : n - k using Nat.strongRecOn generalizing k L with
  | _ m ih =>
    refine PL.round ?_; (repeat refine PW.seq ?_); refine PW.rg rfl fun K hK => ?_; simp (maxSteps := 3000000) (disch := omega) only [go_sem, ↓reduceIte, reduceCtorEq, pappend, plen]; refine hK _ _ ?_; clear hK K
    (repeat refine PW.seq ?_); refine PW.cond (t := _) rfl (fun h => ?_) (fun h => ?_)
    · have h4 : k < n := by have := of_decide_eq_true h; omega
      have hsn : l ++ (vbits V n).take (k + 1) = L ++ [decide (V / 2 ^ (n - 1 - k) % 2 = 1)] := by rw [vbits_take V n k h4, hL, List.append_assoc]
      have hL1 : (L ++ [decide (V / 2 ^ (n - 1 - k) % 2 = 1)]).length = l.length + (k + 1) := by simp [hLl]; omega
      have hnext := ih (n - (k + 1)) (by omega) (k + 1) _ (by omega) hsn.symm hL1 rfl
      have hbt := bit_toNat (V / 2 ^ (n - 1 - k))
      have e1 : (n : Int) - 1 - (k : Int) = ((n - 1 - k : Nat) : Int) := by omega
      have hmd : V / 2 ^ (n - 1 - k) % 2 < 2 := Nat.mod_lt _ (by omega)
      refine PW.skip ?_; (repeat refine PW.seq ?_); refine PW.block ?_
      (repeat refine PW.seq ?_); refine PW.rg rfl fun K hK => ?_; simp (maxSteps := 3000000) (disch := omega) only [go_sem, ↓reduceIte, reduceCtorEq, pappend, plen]; refine hK _ _ ?_; clear hK K
      refine PW.to [0, 1, 2, 7, 23, 24] [(0, .ptr i 0 0), (1, .int .u32 (V : Int)), (2, .int .i64 (n : Int)), (7, .int .i64 (k : Int)), (23, .int .i64 (n : Int)), (24, .int .i64 (k : Int))]
        (two H i j ⟨167, 0, [.msl j (bs (roomy L)).length 0 (roomy L).length 1 true, .int .i64 (L.length : Int)]⟩ ⟨5, (bs (roomy L)).length, bs (roomy L)⟩) ?_ ?_
      · (repeat refine PW.seq ?_); refine PW.rg rfl fun K hK => ?_; simp (maxSteps := 3000000) (disch := omega) only [go_sem, ↓reduceIte, reduceCtorEq, pappend, plen, two_0, two_1, wA, tmod8]; refine hK _ _ ?_; clear hK K
        (repeat refine PW.seq ?_); refine PW.cond (t := _) rfl (fun h => ?_) (fun h => ?_)
        · have h5 : L.length % 8 = 0 := by simp at h; omega
          have hpl := pk_len L
          (repeat refine PW.seq ?_); refine PW.rg rfl fun K hK => ?_; simp (maxSteps := 3000000) (disch := omega) only [go_sem, ↓reduceIte, reduceCtorEq, pappend, plen, two_0, two_1, two_s0, two_s1, wA, wB, length_bs, two_len]; refine hK _ _ ?_; clear hK K
          have e2 : roomy L = pk L ++ [0] := by unfold roomy; rw [if_pos h5]
          refine ⟨by simp [kp, slot, Nat.beq], ?_⟩
          rw [e2, bs_append]
          simp [bs, length_bs]
        · have h5 : ¬ L.length % 8 = 0 := by simp at h; omega
          have e2 : roomy L = pk L := by unfold roomy; rw [if_neg h5]
          refine PW.skip ⟨by simp [kp, slot, Nat.beq], ?_⟩
          rw [e2]; rfl
      (repeat refine PW.seq ?_); refine PW.rg rfl fun K hK => ?_; simp (maxSteps := 3000000) (disch := omega) only [go_sem, ↓reduceIte, reduceCtorEq, pappend, plen, e1, pshr_u32, pand1_u32]; refine hK _ _ ?_; clear hK K
      have hrl := roomy_len L
      have hrb := roomy_byt L
      have hrs := roomy_set L (decide (V / 2 ^ (n - 1 - k) % 2 = 1))
      rw [hbt] at hrs
      have hpk := pkN_lt L (L.length / 8)
      have hz := pkN_tail L (L.length / 8) (L.length % 8) (by omega) (Nat.mod_lt _ (by omega))
      rw [show 8 - L.length % 8 = 7 - L.length % 8 + 1 by omega] at hz
      have hr8 : L.length % 8 < 8 := Nat.mod_lt _ (by omega)
      have e3 : (7 : Int) - ((L.length % 8 : Nat) : Int) = ((7 - L.length % 8 : Nat) : Int) := by omega
      generalize V / 2 ^ (n - 1 - k) % 2 = c at *
      generalize hq : L.length / 8 = q at *
      generalize hp : pkN L q = v at *
      generalize hs : 7 - L.length % 8 = s at *
      have hs7 : s < 8 := by omega
      have hsum : v + c * 2 ^ s < 256 := by
        have h2 : c * 2 ^ s ≤ 1 * 2 ^ s := Nat.mul_le_mul_right _ (by omega)
        have h3 : s = 0 ∨ s = 1 ∨ s = 2 ∨ s = 3 ∨ s = 4 ∨ s = 5 ∨ s = 6 ∨ s = 7 := by omega
        rcases h3 with h3 | h3 | h3 | h3 | h3 | h3 | h3 | h3
        all_goals (rw [h3] at hz h2 ⊢; simp at hz h2 ⊢; omega)
      have hsh : c * 2 ^ s < 256 := by omega
      (repeat refine PW.seq ?_); refine PW.draw mix (by kernel_rfl) fun K hK => ?_; simp (maxSteps := 3000000) (disch := omega) only [go_sem, ↓reduceIte, reduceCtorEq, pappend, plen, two_0, two_1, two_s0, two_s1, two_len, length_bs, tmod8, tdiv8, hq, hs, e3, bs_get, hrb, pshl_u8, por_u8, bs_setN]; refine hK _ _ ?_; clear hK K
      (repeat refine PW.seq ?_); refine PW.rg rfl fun K hK => ?_; simp (maxSteps := 3000000) (disch := omega) only [go_sem, ↓reduceIte, reduceCtorEq, pappend, plen, two_0, two_1, two_s0, two_s1, two_len]; refine hK _ _ ?_; clear hK K
      (repeat refine PW.seq ?_); refine PW.rg rfl fun K hK => ?_; simp (maxSteps := 3000000) (disch := omega) only [go_sem, ↓reduceIte, reduceCtorEq, pappend, plen]; refine hK _ _ ?_; clear hK K
      refine PL.at [0, 1, 2, 23, 24] hnext rfl ?_
      rw [wA, wB, ← hrs]
      simp [length_bs, List.length_set]
    · have h4 : k = n := by have := of_decide_eq_false h; omega
      subst h4
      rw [List.take_of_length_le (by rw [vbits_len]; exact Nat.le_refl _)] at hL
      refine PW.exit ?_
      (repeat refine PW.seq ?_); refine PW.rg rfl fun K hK => ?_; simp (maxSteps := 3000000) (disch := omega) only [go_sem, ↓reduceIte, reduceCtorEq, pappend, plen]; refine hK _ _ ?_; clear hK K
      subst hL
      exact PW.ret ⟨_, rfl, Fin.now⟩

end Go.Proofs.YtbhdollgohgkgaaGreatDoor.Sc

namespace Go.Proofs.YtbhdollgohgkgaaGreatDoor.Sc
set_option linter.all false
set_option linter.unusedVariables false
set_option linter.unusedSimpArgs false
open Pm Ty Go.RowKit

theorem hapL (H K : Heap) (i : Nat) (h : i < H.length) : (H ++ K)[i]? = H[i]? := List.getElem?_append_left h
theorem neww_ok (H : Heap) : CallOk Tryz.prog 94 [] H (.ptr H.length 0 0) (H ++ [⟨167, 0, [.slice [] 0 true, .int .i64 0]⟩]) := by
  refine CallOk.body (F0 := []) Tryz.func94 rfl Tryz.ntmps94 Tryz.results94 rfl (by kernel_rfl) rfl ?_
  (repeat refine PW.seq ?_); refine PW.rg rfl fun K hK => ?_; simp (maxSteps := 3000000) (disch := omega) only [go_sem, ↓reduceIte, reduceCtorEq, pappend, plen]; refine hK _ _ ?_; clear hK K; (repeat refine PW.seq ?_); refine PW.rg rfl fun K hK => ?_; simp (maxSteps := 3000000) (disch := omega) only [go_sem, ↓reduceIte, reduceCtorEq, pappend, plen]; refine hK _ _ ?_; clear hK K
  exact PW.ret ⟨_, rfl, Fin.now⟩
theorem shr128 (r : Nat) (h : r < 8) : 128 / 2 ^ r = 1 * 2 ^ (7 - r) := by
  have : r = 0 ∨ r = 1 ∨ r = 2 ∨ r = 3 ∨ r = 4 ∨ r = 5 ∨ r = 6 ∨ r = 7 := by omega
  rcases this with rfl | rfl | rfl | rfl | rfl | rfl | rfl | rfl <;> rfl
theorem pshr128 (k' : IntKind) (r : Nat) (h : r < 8) : pint .shr .u8 128 k' (r : Int) = some (.int .u8 ((2 ^ (7 - r) : Nat) : Int)) := by
  have := pshr_u8 k' 128 r (by omega)
  rw [shr128 r h, Nat.one_mul] at this
  exact this
theorem por1_u8 (V s : Nat) (h : V < 256) (hs : s < 8) (hz : V % 2 ^ (s + 1) = 0) : pint .or .u8 (V : Int) .u8 ((2 ^ s : Nat) : Int) = some (.int .u8 ((V + 2 ^ s : Nat) : Int)) := by
  have := por_u8 V s 1 h hs hz (by omega)
  rwa [Nat.one_mul] at this
theorem copied (l : List Bool) : splice (reps (l.length / 8 + 1) [.int .u8 0]) 0 ((bs (pk l)).take (min (pk l).length (l.length / 8 + 1) * 1)) = bs (roomy l) := by
  have hp := pk_len l
  have hr : reps (l.length / 8 + 1) [PV.int .u8 0] = List.replicate (l.length / 8 + 1) (.int .u8 0) := by
    generalize l.length / 8 + 1 = n
    induction n with
    | zero => rfl
    | succ n ih => rw [List.replicate_succ, ← ih]; simp [reps, List.replicate_succ]
  rw [hr, Nat.min_eq_left (by omega), Nat.mul_one, List.take_of_length_le (by rw [length_bs]; exact Nat.le_refl _)]
  unfold splice roomy
  rw [List.take_zero, List.nil_append, Nat.zero_add, length_bs, List.drop_replicate]
  split
  · rw [bs_append, show l.length / 8 + 1 - (pk l).length = 1 by omega]; rfl
  · rw [show l.length / 8 + 1 - (pk l).length = 0 by omega]; simp
theorem payload_ok (i j : Nat) (l : List Bool) (H : Heap) (hA : H[i]? = some (wA j l)) (hB : H[j]? = some (wB l)) (hl : l.length ≤ 1000000000) :
    CallOk Tryz.prog 98 [.ptr i 0 0] H (.slice (bs (pk (l ++ [true]))) (pk (l ++ [true])).length false) H := by
  have hi := (List.getElem?_eq_some_iff.1 hA).1
  have hj := (List.getElem?_eq_some_iff.1 hB).1
  have hpl := pk_len l
  have hrl := roomy_len l
  have hrb := roomy_byt l
  have hrs := roomy_set l true
  have hpk := pkN_lt l (l.length / 8)
  have hz := pkN_tail l (l.length / 8) (l.length % 8) (by omega) (Nat.mod_lt _ (by omega))
  rw [show 8 - l.length % 8 = 7 - l.length % 8 + 1 by omega] at hz
  have hr8 : l.length % 8 < 8 := Nat.mod_lt _ (by omega)
  have hcp := copied l
  have hpl1 : (pk (l ++ [true])).length = l.length / 8 + 1 := by rw [pk_len]; simp; omega
  refine CallOk.body (F0 := [(0, .ptr i 0 0)]) Tryz.func98 rfl Tryz.ntmps98 Tryz.results98 rfl (by kernel_rfl) rfl ?_
  (repeat refine PW.seq ?_); refine PW.rg rfl fun K hK => ?_; simp (maxSteps := 3000000) (disch := omega) only [go_sem, ↓reduceIte, reduceCtorEq, pappend, plen]; refine hK _ _ ?_; clear hK K; (repeat refine PW.seq ?_); refine PW.rg rfl fun K hK => ?_; simp (maxSteps := 3000000) (disch := omega) only [go_sem, ↓reduceIte, reduceCtorEq, pappend, plen, hA]; refine hK _ _ ?_; clear hK K
  (repeat refine PW.seq ?_); refine PW.cond (t := _) rfl (fun h => ?_) (fun h => ?_)
  · cases h
  refine PW.skip ?_
  obtain ⟨N, hN⟩ : ∃ N, N = l.length / 8 + 1 := ⟨_, rfl⟩
  rw [← hN] at hcp hrl hpl1
  have e5 : ((l.length / 8 : Nat) : Int) + 1 = (N : Int) := by omega
  (repeat refine PW.seq ?_); refine PW.rg rfl fun K hK => ?_; simp (maxSteps := 3000000) (disch := omega) only [go_sem, ↓reduceIte, reduceCtorEq, pappend, plen, hA, wA, tdiv8, e5]; refine hK _ _ ?_; clear hK K
  have hcl : (List.replicate N [PV.int .u8 0]).flatten.length = N := by simp
  refine PW.to [0, 3] [(0, .ptr i 0 0), (3, .msl H.length 0 0 N 1 true)] (H ++ [⟨5, 0, bs (roomy l)⟩]) ?_ ?_
  · (repeat refine PW.seq ?_); refine PW.rg rfl fun K hK => ?_; simp (maxSteps := 3000000) (disch := omega) only [go_sem, ↓reduceIte, reduceCtorEq, pappend, plen, hapL, hA, hB, wA, wB, length_bs, hcl]; refine hK _ _ ?_; clear hK K
    refine ⟨rfl, ?_⟩
    rw [← hcp]
    have htk : List.take (pk l).length (bs (pk l)) = bs (pk l) := List.take_of_length_le (by rw [length_bs]; exact Nat.le_refl _)
    simp [splice, reps, length_bs, htk]
  generalize hq : l.length / 8 = q at *
  generalize hp : pkN l q = v at *
  generalize hs : 7 - l.length % 8 = s at *
  have hsum : v + 2 ^ s < 256 := by
    have h3 : s = 0 ∨ s = 1 ∨ s = 2 ∨ s = 3 ∨ s = 4 ∨ s = 5 ∨ s = 6 ∨ s = 7 := by omega
    rcases h3 with h3 | h3 | h3 | h3 | h3 | h3 | h3 | h3
    all_goals (rw [h3] at hz ⊢; simp at hz ⊢; omega)
  (repeat refine PW.seq ?_); refine PW.draw mix (by kernel_rfl) fun K hK => ?_; simp (maxSteps := 3000000) (disch := omega) only [go_sem, ↓reduceIte, reduceCtorEq, pappend, plen, hapL, hA, wA, tdiv8, tmod8, length_bs, bs_get, hq, hs, hrb, pshr128, por1_u8, bs_setN]; refine hK _ _ ?_; clear hK K
  (repeat refine PW.seq ?_); refine PW.rg rfl fun K hK => ?_; simp (maxSteps := 3000000) (disch := omega) only [go_sem, ↓reduceIte, reduceCtorEq, pappend, plen]; refine hK _ _ ?_; clear hK K
  refine PW.ret ⟨_, rfl, ?_⟩
  simp only [slot, Nat.beq]
  rw [hpl1]
  have hrs' : (roomy l).set q (UInt8.ofNat (v + 2 ^ s)) = pk (l ++ [true]) := by rw [← hrs, show true.toNat = 1 from rfl, Nat.one_mul]
  rw [hrs']
  exact Fin.base (Fz.mslC (e := 5) (xs := bs (pk (l ++ [true]))) (Nat.le_refl _) (by simp) (by rw [length_bs, hpl1]; omega) (FzC.refl (bs_scoped _ _)))

end Go.Proofs.YtbhdollgohgkgaaGreatDoor.Sc

namespace Go.Proofs.YtbhdollgohgkgaaGreatDoor.Sc
set_option linter.all false
set_option linter.unusedVariables false
set_option linter.unusedSimpArgs false
open Pm Ty Go.RowKit

/-- Bits as bytes 0 and 1. -/
def zb (l : List Bool) : List UInt8 := l.map fun b => if b then 1 else 0
theorem zb_len (l : List Bool) : (zb l).length = l.length := by simp [zb]
theorem zb_append (l m : List Bool) : zb (l ++ m) = zb l ++ zb m := by simp [zb]
theorem zb_byt (l : List Bool) (i : Nat) (h : i < l.length) : byt (zb l) i = (bn l i : Int) := by
  simp only [byt, zb, bn, List.getD, List.getElem?_map, List.getElem?_eq_getElem h, Option.map_some, Option.getD_some]
  cases l[i] <;> rfl
theorem bs_zb1 (m : Nat) : bs (zb [decide (m % 2 = 1)]) = [.int .u8 ((m % 2 : Nat) : Int)] := by
  rcases Nat.mod_two_eq_zero_or_one m with h | h <;> simp [zb, bs, h]

theorem bits_ref (V n : Nat) (H : Heap) (hn : n ≤ 32) : CallOk Tryz.prog 87 [.int .u32 (V : Int), .int .i64 (n : Int)] H (.msl H.length (bs (zb (vbits V n))).length 0 n 1 true) (H ++ [⟨5, (bs (zb (vbits V n))).length, bs (zb (vbits V n))⟩]) := by
  refine CallOk.body (F0 := [(0, .int .u32 (V : Int)), (1, .int .i64 (n : Int))]) Tryz.func87 rfl Tryz.ntmps87 Tryz.results87 rfl (by kernel_rfl) rfl ?_
  (repeat refine PW.seq ?_); refine PW.rg rfl fun K hK => ?_; simp (maxSteps := 3000000) (disch := omega) only [go_sem, ↓reduceIte, reduceCtorEq, pappend, plen]; refine hK _ _ ?_; clear hK K; (repeat refine PW.seq ?_); refine PW.rg rfl fun K hK => ?_; simp (maxSteps := 3000000) (disch := omega) only [go_sem, ↓reduceIte, reduceCtorEq, pappend, plen]; refine hK _ _ ?_; clear hK K; (repeat refine PW.seq ?_); refine PW.rg rfl fun K hK => ?_; simp (maxSteps := 3000000) (disch := omega) only [go_sem, ↓reduceIte, reduceCtorEq, pappend, plen]; refine hK _ _ ?_; clear hK K
  (repeat refine PW.seq ?_)
  refine PW.view (Vs.ghost 5 5 1 rfl) ?_
  refine PW.block (PW.loop ?_)
  suffices hloop : ∀ (k : Nat), k ≤ n → PL Tryz.prog _ _ [(0, .int .u32 (V : Int)), (5, .msl H.length (bs (zb ((vbits V n).take k))).length 0 k 1 true), (6, .int .i64 ((n : Int) - 1 - (k : Int)))] (H ++ [⟨5, (bs (zb ((vbits V n).take k))).length, bs (zb ((vbits V n).take k))⟩]) _ by
    exact PL.at [0, 5, 6] (hloop 0 (Nat.zero_le _)) (by simp (maxSteps := 3000000) (disch := omega) only [go_sem, ↓reduceIte, reduceCtorEq, pappend, plen]; simp [zb, bs]) (by simp [zb, bs])
  intro k hk
  have hl : (zb ((vbits V n).take k)).length = k := by rw [zb_len, List.length_take, vbits_len]; omega
  induction hm : n - k using Nat.strongRecOn generalizing k with
  | _ m ih =>
    refine PL.round ?_; (repeat refine PW.seq ?_); refine PW.rg rfl fun K hK => ?_; simp (maxSteps := 3000000) (disch := omega) only [go_sem, ↓reduceIte, reduceCtorEq, pappend, plen]; refine hK _ _ ?_; clear hK K
    (repeat refine PW.seq ?_); refine PW.cond (t := _) rfl (fun h => ?_) (fun h => ?_)
    · have h4 : k < n := by have := of_decide_eq_true h; omega
      have e1 : (n : Int) - 1 - (k : Int) = ((n - 1 - k : Nat) : Int) := by omega
      have htk := vbits_take V n k h4
      have hb1 := bs_zb1 (V / 2 ^ (n - 1 - k))
      have hmd : V / 2 ^ (n - 1 - k) % 2 < 2 := Nat.mod_lt _ (by omega)
      refine PW.skip ?_; (repeat refine PW.seq ?_); refine PW.block ?_
      (repeat refine PW.seq ?_); refine PW.rg rfl fun K hK => ?_; simp (maxSteps := 3000000) (disch := omega) only [go_sem, ↓reduceIte, reduceCtorEq, pappend, plen, e1, wu64, pshr_u32, pand1_u32, length_bs, hl]; refine hK _ _ ?_; clear hK K
      (repeat refine PW.seq ?_); refine PW.rg rfl fun K hK => ?_; simp (maxSteps := 3000000) (disch := omega) only [go_sem, ↓reduceIte, reduceCtorEq, pappend, plen]; refine hK _ _ ?_; clear hK K
      refine PL.at [0, 5, 6] (ih (n - (k + 1)) (by omega) (k + 1) (by omega) (by rw [zb_len, List.length_take, vbits_len]; omega) rfl) ?_ ?_
      · rw [htk, zb_append, bs_append, hb1]
        simp (maxSteps := 3000000) (disch := omega) only [go_sem, ↓reduceIte, reduceCtorEq, pappend, plen]
        have : ((n - 1 - k : Nat) : Int) - 1 = (n : Int) - 1 - ((k + 1 : Nat) : Int) := by omega
        rw [this]
      · rw [htk, zb_append, bs_append, hb1]
    · have h4 : k = n := by have := of_decide_eq_false h; omega
      subst h4
      have htk : (vbits V k).take k = vbits V k := List.take_of_length_le (by rw [vbits_len]; exact Nat.le_refl _)
      rw [htk] at hl ⊢
      refine PW.exit ?_
      (repeat refine PW.seq ?_); refine PW.rg rfl fun K hK => ?_; simp (maxSteps := 3000000) (disch := omega) only [go_sem, ↓reduceIte, reduceCtorEq, pappend, plen]; refine hK _ _ ?_; clear hK K
      exact PW.ret ⟨_, rfl, Fin.now⟩

/-- N bytes of some bits. -/
def pkf (N : Nat) (M : List Bool) : List UInt8 := (List.range N).map (pkB M)
theorem pkf_len (N : Nat) (M : List Bool) : (pkf N M).length = N := by simp [pkf]
theorem pkf_byt (N : Nat) (M : List Bool) (i : Nat) (h : i < N) : byt (pkf N M) i = (pkN M i : Int) := by
  simp [byt, pkf, h, pkB_nat]
theorem pkf_snoc (N : Nat) (M : List Bool) (b : Bool) (h : M.length / 8 < N) : pkf N (M ++ [b]) = (pkf N M).set (M.length / 8) (UInt8.ofNat (pkN M (M.length / 8) + b.toNat * 2 ^ (7 - M.length % 8))) := by
  apply List.ext_getElem?
  intro i
  rw [List.getElem?_set]
  by_cases hN : i < N
  · by_cases h2 : i = M.length / 8
    · subst h2
      rw [if_pos rfl, if_pos (by rw [pkf_len]; exact hN)]
      simp [pkf, hN, pkB, pkN_snoc M b (M.length / 8) (M.length % 8) (by omega) (Nat.mod_lt _ (by omega))]
    · rw [if_neg (by omega)]
      simp only [pkf, List.getElem?_map, List.getElem?_range hN, Option.map_some, pkB]
      congr 2
      rcases Nat.lt_or_gt_of_ne h2 with h3 | h3
      · exact pkN_snoc_ne M b (M.length / 8) i (by omega) h3
      · rw [pkN_zero (M ++ [b]) i (by simp; omega), pkN_zero M i (by omega)]
  · rw [List.getElem?_eq_none (by rw [pkf_len]; omega)]
    split
    · rename_i e; subst e; rw [if_neg (by rw [pkf_len]; omega)]
    · rw [List.getElem?_eq_none (by rw [pkf_len]; omega)]
theorem pkf_same (N : Nat) (M : List Bool) (h : M.length / 8 < N) : pkf N (M ++ [false]) = pkf N M := by
  rw [pkf_snoc N M false h]
  apply List.ext_getElem?
  intro i
  rw [List.getElem?_set]
  split
  · rename_i e; subst e
    rw [if_pos (by rw [pkf_len]; exact h)]
    simp [pkf, h, pkB]
  · rfl
theorem pkf_pk (l : List Bool) : pkf (l.length / 8 + 1) (l ++ [true]) = pk (l ++ [true]) := by
  unfold pkf pk
  rw [show ((l ++ [true]).length + 7) / 8 = l.length / 8 + 1 by simp; omega]
theorem pkf_nil (N : Nat) : bs (pkf N []) = reps N [.int .u8 0] := by
  have h1 : reps N [PV.int .u8 0] = List.replicate N (.int .u8 0) := by
    induction N with
    | zero => rfl
    | succ n ih => rw [List.replicate_succ, ← ih]; simp [reps, List.replicate_succ]
  have h2 : pkf N [] = List.replicate N 0 := by
    apply List.ext_getElem?
    intro i
    by_cases h : i < N
    · simp [pkf, h, pkB, pkN_zero [] i (by simp)]
    · rw [List.getElem?_eq_none (by rw [pkf_len]; omega), List.getElem?_eq_none (by simp; omega)]
  rw [h1, h2, bs_rep]

set_option maxRecDepth 10000 in
theorem payload_ref (l : List Bool) (f : Bool) (H : Heap) (hl : l.length ≤ 1000000000) :
    CallOk Tryz.prog 92 [.slice (bs (zb l)) l.length f] H (.slice (bs (pk (l ++ [true]))) (pk (l ++ [true])).length false) H := by
  obtain ⟨N, hN⟩ : ∃ N, N = l.length / 8 + 1 := ⟨_, rfl⟩
  have hpl1 : (pk (l ++ [true])).length = N := by rw [pk_len]; simp; omega
  have e5 : ((l.length / 8 : Nat) : Int) + 1 = (N : Int) := by omega
  refine CallOk.body (F0 := [(0, .slice (bs (zb l)) l.length f)]) Tryz.func92 rfl Tryz.ntmps92 Tryz.results92 rfl (by kernel_rfl) rfl ?_
  (repeat refine PW.seq ?_); refine PW.rg rfl fun K hK => ?_; simp (maxSteps := 3000000) (disch := omega) only [go_sem, ↓reduceIte, reduceCtorEq, pappend, plen]; refine hK _ _ ?_; clear hK K
  (repeat refine PW.seq ?_); refine PW.rg rfl fun K hK => ?_; simp (maxSteps := 3000000) (disch := omega) only [go_sem, ↓reduceIte, reduceCtorEq, pappend, plen, tdiv8, e5]; refine hK _ _ ?_; clear hK K
  (repeat refine PW.seq ?_); refine PW.rg rfl fun K hK => ?_; simp (maxSteps := 3000000) (disch := omega) only [go_sem, ↓reduceIte, reduceCtorEq, pappend, plen]; refine hK _ _ ?_; clear hK K
  (repeat refine PW.seq ?_); refine PW.block (PW.loop ?_)
  suffices hloop : ∀ (k : Nat), k ≤ l.length + 1 → PL Tryz.prog _ _ [(0, .slice (bs (zb l)) l.length f), (3, .msl H.length 0 0 N 1 true), (4, .int .i64 (k : Int))] (H ++ [⟨5, 0, bs (pkf N ((l ++ [true]).take k))⟩]) _ by
    exact PL.at [0, 3, 4] (hloop 0 (Nat.zero_le _)) rfl (by rw [List.take_zero, pkf_nil]; rfl)
  intro k hk
  induction hm : l.length + 1 - k using Nat.strongRecOn generalizing k with
  | _ m ih =>
    refine PL.round ?_; (repeat refine PW.seq ?_); refine PW.rg rfl fun K hK => ?_; simp (maxSteps := 3000000) (disch := omega) only [go_sem, ↓reduceIte, reduceCtorEq, pappend, plen]; refine hK _ _ ?_; clear hK K
    (repeat refine PW.seq ?_); refine PW.cond (t := _) rfl (fun h => ?_) (fun h => ?_)
    · have h4 : k ≤ l.length := by have := of_decide_eq_true h; omega
      have hM : ((l ++ [true]).take k).length = k := by simp; omega
      have hbit : bn (l ++ [true]) k = if k = l.length then 1 else bn l k := by rw [bn_snoc]; rfl
      obtain ⟨b, hb⟩ : ∃ b, b = (l ++ [true])[k]?.getD false := ⟨_, rfl⟩
      have hts : (l ++ [true]).take (k + 1) = (l ++ [true]).take k ++ [b] := by
        rw [List.take_succ_eq_append_getElem (by simp; omega), hb, List.getElem?_eq_getElem (by simp; omega)]; rfl
      have hbn : b.toNat = bn (l ++ [true]) k := by rw [hb]; rfl
      have hzb : k < l.length → byt (zb l) k = (b.toNat : Int) := fun hlt => by rw [zb_byt l k hlt, hbn, hbit, if_neg (by omega)]
      have hkN : k / 8 < N := by omega
      have hps := pkf_snoc N ((l ++ [true]).take k) b (by rw [hM]; exact hkN)
      have hpf := pkf_same N ((l ++ [true]).take k) (by rw [hM]; exact hkN)
      have hpb := pkf_byt N ((l ++ [true]).take k) (k / 8) hkN
      have hpk := pkN_lt ((l ++ [true]).take k) (k / 8)
      have hz := pkN_tail ((l ++ [true]).take k) (k / 8) (k % 8) (by rw [hM]; omega) (Nat.mod_lt _ (by omega))
      rw [show 8 - k % 8 = 7 - k % 8 + 1 by omega] at hz
      rw [hM] at hps
      have hnext := ih (l.length + 1 - (k + 1)) (by omega) (k + 1) (by omega) rfl
      rw [hts] at hnext
      generalize (l ++ [true]).take k = M at *
      have hpfl := pkf_len N M
      refine PW.skip ?_
      refine PW.to [0, 3, 4] [(0, .slice (bs (zb l)) l.length f), (3, .msl H.length 0 0 N 1 true), (4, .int .i64 (k : Int))] (H ++ [⟨5, 0, bs (pkf N (M ++ [b]))⟩]) ?_ ?_
      · (repeat refine PW.seq ?_); refine PW.block ?_
        (repeat refine PW.seq ?_)
        refine PW.rgv (P := Tryz.prog) [0, 3, 4] 26 (.bool b) ?_ ?_ ?_
        · rfl
        · rcases Nat.lt_or_ge k l.length with h5 | h5
          rotate_left
          · have h5 : k = l.length := by omega
            have hb1 : b = true := by rw [hbit, if_pos h5] at hbn; cases b <;> simp at hbn ⊢
            simp (maxSteps := 3000000) (disch := omega) only [go_sem, ↓reduceIte, reduceCtorEq, pappend, plen]; (repeat' ((first | refine VO_cond ?_ ?_ | refine VOd_cond ?_ ?_ | refine VOg_cond ?_ ?_ | refine VOh_cond ?_ ?_ | refine VOi_cond ?_ ?_ | refine And.intro ?_ ?_) <;> intro h <;> (try simp only [Bool.not_eq_true', Bool.not_eq_false', decide_eq_true_eq, decide_eq_false_iff_not] at h) <;> simp (maxSteps := 3000000) (disch := omega) only [go_sem, ↓reduceIte, reduceCtorEq, pappend, plen, h]))
            all_goals (simp_all [slot, Nat.beq] <;> first | rfl | omega | (rw [Bool.eq_iff_iff]; simp; done) | (rw [Bool.eq_iff_iff]; simp; omega))
          · have h6 := hzb (by omega)
            have hg : (bs (zb l))[k]? = some (.int .u8 (b.toNat : Int)) := by rw [bs_get _ _ (by rw [zb_len]; exact h5), h6]
            simp (maxSteps := 3000000) (disch := omega) only [go_sem, ↓reduceIte, reduceCtorEq, pappend, plen, zb_len, length_bs, hg]; (repeat' ((first | refine VO_cond ?_ ?_ | refine VOd_cond ?_ ?_ | refine VOg_cond ?_ ?_ | refine VOh_cond ?_ ?_ | refine VOi_cond ?_ ?_ | refine And.intro ?_ ?_) <;> intro h <;> (try simp only [Bool.not_eq_true', Bool.not_eq_false', decide_eq_true_eq, decide_eq_false_iff_not] at h) <;> simp (maxSteps := 3000000) (disch := omega) only [go_sem, ↓reduceIte, reduceCtorEq, pappend, plen, zb_len, length_bs, hg, h]))
            all_goals (clear hnext ih hps hpf hts; cases b <;> simp)
        (repeat refine PW.seq ?_); refine PW.cond (t := _) rfl (fun h => ?_) (fun h => ?_)
        · subst h
          generalize hq : k / 8 = q at *
          generalize hp : pkN M q = v at *
          have hs7 : 7 - k % 8 < 8 := by omega
          have hk8 : k % 8 < 8 := Nat.mod_lt _ (by omega)
          generalize hs : 7 - k % 8 = s at *
          have hsum : v + 2 ^ s < 256 := by
            have h3 : s = 0 ∨ s = 1 ∨ s = 2 ∨ s = 3 ∨ s = 4 ∨ s = 5 ∨ s = 6 ∨ s = 7 := by omega
            rcases h3 with h3 | h3 | h3 | h3 | h3 | h3 | h3 | h3
            all_goals (rw [h3] at hz ⊢; simp at hz ⊢; omega)
          (repeat refine PW.seq ?_); refine PW.rg rfl fun K hK => ?_; simp (maxSteps := 3000000) (disch := omega) only [go_sem, ↓reduceIte, reduceCtorEq, pappend, plen, tdiv8, tmod8, length_bs, hpfl, bs_get, hq, hs, hpb, wu64, pshr128, por1_u8, bs_setN]; refine hK _ _ ?_; clear hK K
          refine ⟨rfl, ?_⟩
          rw [hps, show true.toNat = 1 from rfl, Nat.one_mul]
        · subst h
          refine PW.skip ⟨rfl, ?_⟩
          rw [hpf]
      (repeat refine PW.seq ?_); refine PW.rg rfl fun K hK => ?_; simp (maxSteps := 3000000) (disch := omega) only [go_sem, ↓reduceIte, reduceCtorEq, pappend, plen]; refine hK _ _ ?_; clear hK K
      exact PL.at [0, 3, 4] hnext rfl rfl
    · have h4 : k = l.length + 1 := by have := of_decide_eq_false h; omega
      subst h4
      rw [List.take_of_length_le (by simp), hN, pkf_pk]
      rw [hN] at hpl1
      refine PW.exit ?_
      (repeat refine PW.seq ?_); refine PW.rg rfl fun K hK => ?_; simp (maxSteps := 3000000) (disch := omega) only [go_sem, ↓reduceIte, reduceCtorEq, pappend, plen]; refine hK _ _ ?_; clear hK K
      refine PW.ret ⟨_, rfl, ?_⟩
      simp only [slot, Nat.beq]
      rw [hpl1]
      exact Fin.base (Fz.mslC (e := 5) (xs := bs (pk (l ++ [true]))) (Nat.le_refl _) (by simp) (by rw [length_bs, hpl1]; omega) (FzC.refl (bs_scoped _ _)))

end Go.Proofs.YtbhdollgohgkgaaGreatDoor.Sc

namespace Go.Proofs.YtbhdollgohgkgaaGreatDoor.Sc
set_option linter.all false
set_option linter.unusedVariables false
set_option linter.unusedSimpArgs false
open Pm Ty Go.RowKit

/-- Bit k of some bytes. -/
def ubit (p : List UInt8) (k : Nat) : Nat := (p.getD (k / 8) 0).toNat / 2 ^ (7 - k % 8) % 2
theorem ubit_lt (p : List UInt8) (k : Nat) : ubit p k < 2 := Nat.mod_lt _ (by omega)
/-- The number of n bits from place a on. -/
def vl (p : List UInt8) (a : Nat) : Nat → Nat
  | 0 => 0
  | n + 1 => 2 * vl p a n + ubit p (a + n)
theorem vl_lt (p : List UInt8) (a : Nat) : ∀ n, vl p a n < 2 ^ n
  | 0 => by simp [vl]
  | n + 1 => by
    have h1 := vl_lt p a n
    have h2 := ubit_lt p (a + n)
    rw [vl, Nat.pow_succ]
    omega
theorem pshl1_u32 (k' : IntKind) (V : Nat) (h : 2 * V < 4294967296) : pint .shl .u32 (V : Int) k' 1 = some (.int .u32 ((2 * V : Nat) : Int)) := by
  simp only [pint, IntKind.bits]
  rw [if_neg (by omega), show min (1 : Int).toNat 32 = 1 from rfl, show (V : Int) * (2 : Int) ^ 1 = ((2 * V : Nat) : Int) by omega, w32 _ (by omega)]
theorem or_even (a b : Nat) (hb : b < 2) : 2 * a ||| b = 2 * a + b := by
  have h1 : 2 * a = a <<< 1 := by rw [Nat.shiftLeft_eq]; omega
  rw [h1, Nat.shiftLeft_add_eq_or_of_lt (by simpa using hb)]
theorem por_u32 (a b : Nat) (hb : b < 2) (h : 2 * a < 4294967296) : pint .or .u32 ((2 * a : Nat) : Int) .u32 (b : Int) = some (.int .u32 ((2 * a + b : Nat) : Int)) := by
  have key0 : (BitVec.ofInt 32 ((2 * a : Nat) : Int) ||| BitVec.ofInt 32 (b : Int)).toNat = 2 * a + b := by
    rw [BitVec.ofInt_natCast, BitVec.ofInt_natCast, BitVec.toNat_or, BitVec.toNat_ofNat, BitVec.toNat_ofNat, Nat.mod_eq_of_lt (by omega), Nat.mod_eq_of_lt (by omega)]
    exact or_even a b hb
  have key : (BitVec.ofInt IntKind.u32.bits ((2 * a : Nat) : Int) ||| BitVec.ofInt IntKind.u32.bits (b : Int)).toNat = 2 * a + b := key0
  simp only [pint, key, if_true]
  rw [w32 _ (by omega)]

/-- A reader: its bytes, its number of bits, its place. -/
def rA (p : List UInt8) (n a : Nat) : Blk := ⟨157, 0, [.slice (bs p) p.length false, .int .i64 (n : Int), .int .i64 (a : Int)]⟩

theorem rleft_ok (i : Nat) (p : List UInt8) (n a : Nat) (H : Heap) (hA : H[i]? = some (rA p n a)) (ha : a ≤ n) (hn : n ≤ 1000000000) : CallOk Tryz.prog 78 [.ptr i 0 0] H (.int .i64 ((n - a : Nat) : Int)) H := by
  have e : (n : Int) - (a : Int) = ((n - a : Nat) : Int) := by omega
  refine CallOk.body (F0 := [(0, .ptr i 0 0)]) Tryz.func78 rfl Tryz.ntmps78 Tryz.results78 rfl (by kernel_rfl) rfl ?_
  (repeat' (first | refine PW.seq ?_ | refine PW.skip ?_ | refine PW.block ?_ | (refine PW.rg rfl fun K hK => ?_; simp (maxSteps := 3000000) (disch := omega) only [go_sem, ↓reduceIte, reduceCtorEq, pappend, plen, hA, rA, e]) | (refine PW.draw mix (by kernel_rfl) fun K hK => ?_; simp (maxSteps := 3000000) (disch := omega) only [go_sem, ↓reduceIte, reduceCtorEq, pappend, plen, hA, rA, e]) | (refine PW.drawg mix (by kernel_rfl) fun K hK => ?_; simp (maxSteps := 3000000) (disch := omega) only [go_sem, ↓reduceIte, reduceCtorEq, pappend, plen, hA, rA, e]) | (refine PW.drawt [] [] mix (by kernel_rfl) fun K hK => ?_; simp (maxSteps := 3000000) (disch := omega) only [go_sem, ↓reduceIte, reduceCtorEq, pappend, plen, hA, rA, e]) | ((first | refine VO_cond ?_ ?_ | refine VOd_cond ?_ ?_ | refine VOg_cond ?_ ?_ | refine VOh_cond ?_ ?_ | refine VOi_cond ?_ ?_ | refine And.intro ?_ ?_) <;> intro h <;> (try simp only [Bool.not_eq_true', Bool.not_eq_false', decide_eq_true_eq, decide_eq_false_iff_not] at h) <;> simp (maxSteps := 3000000) (disch := omega) only [go_sem, ↓reduceIte, reduceCtorEq, pappend, plen, hA, rA, e, h]) | (refine hK _ _ ?_; clear hK K) | (refine PW.cond (t := _) rfl (fun h => ?_) (fun h => ?_) <;> (try (cases h; done)) <;> (try simp only [Bool.not_eq_true', Bool.not_eq_false', decide_eq_true_eq, decide_eq_false_iff_not] at h))))
  all_goals exact PW.ret ⟨_, rfl, Fin.now⟩

theorem rtake_short (i : Nat) (p : List UInt8) (n a m : Nat) (H : Heap) (hA : H[i]? = some (rA p n a)) (ha : a ≤ n) (hn : n ≤ 1000000000) (hm : m ≤ 32) (hs : n - a < m) :
    CallOk Tryz.prog 80 [.ptr i 0 0, .int .i64 (m : Int)] H (.tup [.int .u32 0, .int .i64 4]) H := by
  refine CallOk.body (F0 := [(0, .ptr i 0 0), (1, .int .i64 (m : Int))]) Tryz.func80 rfl Tryz.ntmps80 Tryz.results80 rfl (by kernel_rfl) rfl ?_
  (repeat' (first | refine PW.seq ?_ | refine PW.skip ?_ | refine PW.block ?_ | (refine PW.rg rfl fun K hK => ?_; simp (maxSteps := 3000000) (disch := omega) only [go_sem, ↓reduceIte, reduceCtorEq, pappend, plen, hA, rA]) | (refine PW.draw mix (by kernel_rfl) fun K hK => ?_; simp (maxSteps := 3000000) (disch := omega) only [go_sem, ↓reduceIte, reduceCtorEq, pappend, plen, hA, rA]) | (refine PW.drawg mix (by kernel_rfl) fun K hK => ?_; simp (maxSteps := 3000000) (disch := omega) only [go_sem, ↓reduceIte, reduceCtorEq, pappend, plen, hA, rA]) | (refine PW.drawt [] [] mix (by kernel_rfl) fun K hK => ?_; simp (maxSteps := 3000000) (disch := omega) only [go_sem, ↓reduceIte, reduceCtorEq, pappend, plen, hA, rA]) | ((first | refine VO_cond ?_ ?_ | refine VOd_cond ?_ ?_ | refine VOg_cond ?_ ?_ | refine VOh_cond ?_ ?_ | refine VOi_cond ?_ ?_ | refine And.intro ?_ ?_) <;> intro h <;> (try simp only [Bool.not_eq_true', Bool.not_eq_false', decide_eq_true_eq, decide_eq_false_iff_not] at h) <;> simp (maxSteps := 3000000) (disch := omega) only [go_sem, ↓reduceIte, reduceCtorEq, pappend, plen, hA, rA, h]) | (refine hK _ _ ?_; clear hK K) | (refine PW.cond (t := _) rfl (fun h => ?_) (fun h => ?_) <;> (try (cases h; done)) <;> (try simp only [Bool.not_eq_true', Bool.not_eq_false', decide_eq_true_eq, decide_eq_false_iff_not] at h))))
  all_goals first | exact PW.ret ⟨_, rfl, Fin.now⟩ | omega

theorem rtake_ok (i : Nat) (p : List UInt8) (n a m : Nat) (H : Heap) (hA : H[i]? = some (rA p n a)) (ha : a + m ≤ n) (hn : n ≤ 8 * p.length) (hp : p.length ≤ 100000000) (hm : m ≤ 32) :
    CallOk Tryz.prog 80 [.ptr i 0 0, .int .i64 (m : Int)] H (.tup [.int .u32 (vl p a m : Int), .int .i64 0]) (H.set i (rA p n (a + m))) := by
  have hi := (List.getElem?_eq_some_iff.1 hA).1
  have hself := set_self hA
  refine CallOk.body (F0 := [(0, .ptr i 0 0), (1, .int .i64 (m : Int))]) Tryz.func80 rfl Tryz.ntmps80 Tryz.results80 rfl (by kernel_rfl) rfl ?_
  (repeat refine PW.seq ?_); refine PW.rg rfl fun K hK => ?_; simp (maxSteps := 3000000) (disch := omega) only [go_sem, ↓reduceIte, reduceCtorEq, pappend, plen]; refine hK _ _ ?_; clear hK K
  (repeat refine PW.seq ?_)
  refine PW.rgv [0, 1] 17 (.bool false) rfl ?_ ?_
  · simp (maxSteps := 3000000) (disch := omega) only [go_sem, ↓reduceIte, reduceCtorEq, pappend, plen, hA, rA]
  (repeat refine PW.seq ?_); refine PW.cond (t := _) rfl (fun h => ?_) (fun h => ?_)
  · cases h
  refine PW.skip ?_
  (repeat refine PW.seq ?_); refine PW.draw mix (by kernel_rfl) fun K hK => ?_; simp (maxSteps := 3000000) (disch := omega) only [go_sem, ↓reduceIte, reduceCtorEq, pappend, plen, hA, rA]; refine hK _ _ ?_; clear hK K
  (repeat refine PW.seq ?_); refine PW.cond (t := _) rfl (fun h => ?_) (fun h => ?_)
  · cases h
  refine PW.skip ?_
  (repeat refine PW.seq ?_); refine PW.rg rfl fun K hK => ?_; simp (maxSteps := 3000000) (disch := omega) only [go_sem, ↓reduceIte, reduceCtorEq, pappend, plen]; refine hK _ _ ?_; clear hK K
  (repeat refine PW.seq ?_); refine PW.rg rfl fun K hK => ?_; simp (maxSteps := 3000000) (disch := omega) only [go_sem, ↓reduceIte, reduceCtorEq, pappend, plen]; refine hK _ _ ?_; clear hK K
  (repeat refine PW.seq ?_); refine PW.block (PW.loop ?_)
  suffices hloop : ∀ (k : Nat), k ≤ m → PL Tryz.prog _ _ [(0, .ptr i 0 0), (6, .int .u32 (vl p a k : Int)), (29, .int .i64 (m : Int)), (30, .int .i64 (k : Int))] (H.set i (rA p n (a + k))) _ by
    exact PL.at [0, 6, 29, 30] (hloop 0 (Nat.zero_le _)) rfl hself.symm
  intro k hk
  induction hmk : m - k using Nat.strongRecOn generalizing k with
  | _ r ih =>
    refine PL.round ?_; (repeat refine PW.seq ?_); refine PW.rg rfl fun K hK => ?_; simp (maxSteps := 3000000) (disch := omega) only [go_sem, ↓reduceIte, reduceCtorEq, pappend, plen]; refine hK _ _ ?_; clear hK K
    have hat : ∀ B : Blk, (H.set i B)[i]? = some B := fun B => by simp [hi]
    (repeat refine PW.seq ?_); refine PW.cond (t := _) rfl (fun h => ?_) (fun h => ?_)
    · have h4 : k < m := by have := of_decide_eq_true h; omega
      have hnext := ih (m - (k + 1)) (by omega) (k + 1) (by omega) rfl
      have hr8 : (a + k) % 8 < 8 := Nat.mod_lt _ (by omega)
      have hq8 : (a + k) / 8 < p.length := by omega
      have hu : ubit p (a + k) = (p.getD ((a + k) / 8) 0).toNat / 2 ^ (7 - (a + k) % 8) % 2 := rfl
      have e3 : (7 : Int) - (((a + k) % 8 : Nat) : Int) = ((7 - (a + k) % 8 : Nat) : Int) := by omega
      have e4 : ((a + k : Nat) : Int) + 1 = ((a + (k + 1) : Nat) : Int) := by omega
      have hul := ubit_lt p (a + k)
      have hvl := vl_lt p a k
      have hvl2 : 2 * vl p a k < 4294967296 := by
        have : 2 ^ k ≤ 2 ^ 31 := Nat.pow_le_pow_right (by omega) (by omega)
        omega
      have hb : byt p ((a + k) / 8) = ((p.getD ((a + k) / 8) 0).toNat : Int) := rfl
      refine PW.skip ?_; (repeat refine PW.seq ?_); refine PW.block ?_
      (repeat refine PW.seq ?_); refine PW.draw mix (by kernel_rfl) fun K hK => ?_; simp (maxSteps := 3000000) (disch := omega) only [go_sem, ↓reduceIte, reduceCtorEq, pappend, plen, hat, rA, tdiv8, tmod8, length_bs, bs_get, e3, hb, pshr_u8, pand1_u8, ← hu]; refine hK _ _ ?_; clear hK K
      (repeat refine PW.seq ?_); refine PW.rg rfl fun K hK => ?_; simp (maxSteps := 3000000) (disch := omega) only [go_sem, ↓reduceIte, reduceCtorEq, pappend, plen, pshl1_u32, por_u32]; refine hK _ _ ?_; clear hK K
      (repeat refine PW.seq ?_); refine PW.rg rfl fun K hK => ?_; simp (maxSteps := 3000000) (disch := omega) only [go_sem, ↓reduceIte, reduceCtorEq, pappend, plen, hat, rA, e4, List.set_set]; refine hK _ _ ?_; clear hK K
      (repeat refine PW.seq ?_); refine PW.rg rfl fun K hK => ?_; simp (maxSteps := 3000000) (disch := omega) only [go_sem, ↓reduceIte, reduceCtorEq, pappend, plen]; refine hK _ _ ?_; clear hK K
      exact PL.at [0, 6, 29, 30] hnext rfl rfl
    · have h4 : k = m := by have := of_decide_eq_false h; omega
      subst h4
      refine PW.exit ?_
      (repeat refine PW.seq ?_); refine PW.rg rfl fun K hK => ?_; simp (maxSteps := 3000000) (disch := omega) only [go_sem, ↓reduceIte, reduceCtorEq, pappend, plen]; refine hK _ _ ?_; clear hK K
      refine PW.ret ⟨_, rfl, Fin.now⟩

end Go.Proofs.YtbhdollgohgkgaaGreatDoor.Sc

namespace Go.Proofs.YtbhdollgohgkgaaGreatDoor.Sc
set_option linter.all false
set_option linter.unusedVariables false
set_option linter.unusedSimpArgs false
open Pm Ty Go.RowKit

/-- Trailing zeros of a byte. -/
def tz8 (b : Nat) : Nat := if b % 2 ≠ 0 then 0 else if b % 4 ≠ 0 then 1 else if b % 8 ≠ 0 then 2 else if b % 16 ≠ 0 then 3 else if b % 32 ≠ 0 then 4 else if b % 64 ≠ 0 then 5 else if b % 128 ≠ 0 then 6 else if b % 256 ≠ 0 then 7 else 8
theorem tz8_fact : ∀ b < 256, b = 0 ∨ (tz8 b < 8 ∧ b / 2 ^ tz8 b % 2 = 1 ∧ ∀ j < 8, tz8 b ≤ j ∨ b / 2 ^ j % 2 = 0) := by decide +kernel

def isInt (r : Option Res) (v : Nat) : Bool := match r with
  | some (.val (.int .i64 n) []) => n == (v : Int)
  | _ => false
theorem tz_all : ∀ b : Nat, b < 256 → isInt (evalN Tryz.prog 100 (.call 100 [.int .u8 (b : Int)] [])) (tz8 b) = true := by decide +kernel
theorem tz_ok (b : Nat) (hb : b < 256) (H : Heap) : CallOk Tryz.prog 100 [.int .u8 (b : Int)] H (.int .i64 (tz8 b : Int)) H := by
  refine CallOk.eval 100 ?_ ?_
  · have h := tz_all b hb
    unfold isInt at h
    split at h
    · rename_i he; rw [he, eq_of_beq h]
    · cases h
  · intro x hx
    simp only [List.mem_cons, List.not_mem_nil, or_false] at hx
    rw [hx]; exact .int _ _

/-- The last byte; the number of bits ahead of the last set one. -/
def lastB (q : List UInt8) : Nat := (q.getD (q.length - 1) 0).toNat
def nb (q : List UInt8) : Nat := 8 * q.length - 1 - tz8 (lastB q)

theorem newr_bad (q : List UInt8) (f : Bool) (H : Heap) (hl : q.length ≤ 100000000) (hb : q.length = 0 ∨ lastB q = 0) :
    CallOk Tryz.prog 71 [.slice (bs q) q.length f] H (.tup [.nilp, .int .i64 3]) H := by
  refine CallOk.body (F0 := [(0, .slice (bs q) q.length f)]) Tryz.func71 rfl Tryz.ntmps71 Tryz.results71 rfl (by kernel_rfl) rfl ?_
  by_cases h0 : q.length = 0
  · (repeat refine PW.seq ?_); refine PW.rg rfl fun K hK => ?_; simp (maxSteps := 3000000) (disch := omega) only [go_sem, ↓reduceIte, reduceCtorEq, pappend, plen]; refine hK _ _ ?_; clear hK K
    (repeat refine PW.seq ?_); refine PW.rg rfl fun K hK => ?_; simp (maxSteps := 3000000) (disch := omega) only [go_sem, ↓reduceIte, reduceCtorEq, pappend, plen, h0]
    refine hK _ _ ?_; clear hK K
    (repeat refine PW.seq ?_); refine PW.cond (t := _) rfl (fun h => ?_) (fun h => ?_)
    · (repeat refine PW.seq ?_); refine PW.rg rfl fun K hK => ?_; simp (maxSteps := 3000000) (disch := omega) only [go_sem, ↓reduceIte, reduceCtorEq, pappend, plen]; refine hK _ _ ?_; clear hK K
      exact PW.ret ⟨_, rfl, Fin.now⟩
    · cases h
  · have e1 : (q.length : Int) - 1 = ((q.length - 1 : Nat) : Int) := by omega
    have hby : byt q (q.length - 1) = 0 := by
      have : byt q (q.length - 1) = (lastB q : Int) := rfl
      omega
    (repeat refine PW.seq ?_); refine PW.rg rfl fun K hK => ?_; simp (maxSteps := 3000000) (disch := omega) only [go_sem, ↓reduceIte, reduceCtorEq, pappend, plen]; refine hK _ _ ?_; clear hK K
    (repeat refine PW.seq ?_); refine PW.rg rfl fun K hK => ?_; simp (maxSteps := 3000000) (disch := omega) only [go_sem, ↓reduceIte, reduceCtorEq, pappend, plen, e1, bs_get, length_bs, hby]
    refine hK _ _ ?_; clear hK K
    (repeat refine PW.seq ?_); refine PW.cond (t := _) rfl (fun h => ?_) (fun h => ?_)
    · (repeat refine PW.seq ?_); refine PW.rg rfl fun K hK => ?_; simp (maxSteps := 3000000) (disch := omega) only [go_sem, ↓reduceIte, reduceCtorEq, pappend, plen]; refine hK _ _ ?_; clear hK K
      exact PW.ret ⟨_, rfl, Fin.now⟩
    · cases h
theorem newr_ok (q : List UInt8) (f : Bool) (H : Heap) (hl : q.length ≤ 100000000) (hq : q.length ≠ 0) (hb : lastB q ≠ 0) :
    CallOk Tryz.prog 71 [.slice (bs q) q.length f] H (.tup [.ptr (H.length + 1) 0 0, .int .i64 0]) (H ++ [⟨5, 1, []⟩, rA q (nb q) 0]) := by
  have e1 : (q.length : Int) - 1 = ((q.length - 1 : Nat) : Int) := by omega
  have hby : byt q (q.length - 1) = (lastB q : Int) := rfl
  have hlt : lastB q < 256 := UInt8.toNat_lt _
  have htz : tz8 (lastB q) < 8 := ((tz8_fact _ hlt).resolve_left hb).1
  refine CallOk.body (F0 := [(0, .slice (bs q) q.length f)]) Tryz.func71 rfl Tryz.ntmps71 Tryz.results71 rfl (by kernel_rfl) rfl ?_
  (repeat refine PW.seq ?_); refine PW.rg rfl fun K hK => ?_; simp (maxSteps := 3000000) (disch := omega) only [go_sem, ↓reduceIte, reduceCtorEq, pappend, plen]; refine hK _ _ ?_; clear hK K
  (repeat refine PW.seq ?_); refine PW.rg rfl fun K hK => ?_; simp (maxSteps := 3000000) (disch := omega) only [go_sem, ↓reduceIte, reduceCtorEq, pappend, plen, e1, bs_get, length_bs, hby]; refine hK _ _ ?_; clear hK K
  (repeat refine PW.seq ?_); refine PW.cond (t := _) rfl (fun h => ?_) (fun h => ?_)
  · cases h
  refine PW.skip ?_
  (repeat refine PW.seq ?_); refine PW.rg rfl fun K hK => ?_; simp (maxSteps := 3000000) (disch := omega) only [go_sem, ↓reduceIte, reduceCtorEq, pappend, plen]; refine hK _ _ ?_; clear hK K
  have hcl : (List.replicate q.length [PV.int .u8 0]).flatten.length = q.length := by simp
  refine PW.to [0, 4] [(0, .slice (bs q) q.length f), (4, .ptr (H.length + 1) 0 0)] (H ++ [⟨5, 0, bs q⟩, ⟨157, 0, [.msl H.length 0 0 q.length 1 true, .int .i64 0, .int .i64 0]⟩]) ?_ ?_
  · (repeat refine PW.seq ?_); refine PW.rg rfl fun K hK => ?_; simp (maxSteps := 3000000) (disch := omega) only [go_sem, ↓reduceIte, reduceCtorEq, pappend, plen, length_bs, hcl]; refine hK _ _ ?_; clear hK K
    refine ⟨rfl, ?_⟩
    have htk : List.take q.length (bs q) = bs q := List.take_of_length_le (by rw [length_bs]; exact Nat.le_refl _)
    simp [splice, reps, length_bs, htk]
  refine PW.view (Vs.frzCell (id := H.length) (id' := H.length + 1) (j := 0) (hp0 _ _ _) (hp1 _ _ _ _) (by omega) rfl (by simp [length_bs])) ?_
  simp only [hs0, hs1, List.set_cons_zero]
  (repeat refine PW.seq ?_); refine PW.rg rfl fun K hK => ?_; simp (maxSteps := 3000000) (disch := omega) only [go_sem, ↓reduceIte, reduceCtorEq, pappend, plen, length_bs, e1, bs_get, hby]; refine VCx.call (tz_ok _ hlt _) rfl ?_; simp (maxSteps := 3000000) (disch := omega) only [go_sem, ↓reduceIte, reduceCtorEq, pappend, plen, length_bs, e1, bs_get, hby]; refine hK _ _ ?_; clear hK K
  (repeat refine PW.seq ?_); refine PW.rg rfl fun K hK => ?_; simp (maxSteps := 3000000) (disch := omega) only [go_sem, ↓reduceIte, reduceCtorEq, pappend, plen]; refine hK _ _ ?_; clear hK K
  have e2 : 8 * (q.length : Int) - 1 - (tz8 (lastB q) : Int) = (nb q : Int) := by unfold nb; omega
  refine PW.ret ⟨_, rfl, ?_⟩
  refine .inl ⟨?_, ?_⟩
  · simp [slot, Nat.beq]
  · rw [e2]; rfl

end Go.Proofs.YtbhdollgohgkgaaGreatDoor.Sc

namespace Go.Proofs.YtbhdollgohgkgaaGreatDoor.Sc
set_option linter.all false
set_option linter.unusedVariables false
set_option linter.unusedSimpArgs false
open Pm Ty Go.RowKit

/-- What a call leaves behind beyond the heap is lost; its value given up. -/
theorem _root_.Go.Proofs.YtbhdollgohgkgaaGreatDoor.Pm.CallOk.lose {P : Program} {H : Heap} {f : FuncId} {args : List PV} {v v' : PV} {K : Heap} (h : CallOk P f args H v (H ++ K)) (hz : Fz H.length (H ++ K) v v') : CallOk P f args H v' H :=
  ⟨h.1, fun C us w hw hu => (h.2 C us w hw hu).mono fun e w' ⟨C', u, q1, q2, q3, q4, q5⟩ => by
    obtain ⟨g1, g2⟩ := WRel.give hw q1 q2
    exact ⟨_, u, g1, g2, q3, q4, Fz.sound q2 hz q5⟩⟩

theorem bits_refF (V n : Nat) (H : Heap) (hn : n ≤ 32) : CallOk Tryz.prog 87 [.int .u32 (V : Int), .int .i64 (n : Int)] H (.slice (bs (zb (vbits V n))) n false) H :=
  (bits_ref V n H hn).lose (Fz.mslC (e := 5) (xs := bs (zb (vbits V n))) (Nat.le_refl _) (by simp) (by simp [length_bs, zb_len, vbits_len]) (FzC.refl (bs_scoped _ _)))

/-- All bits of some bytes. -/
def bl (q : List UInt8) : List Bool := (List.range (8 * q.length)).map fun k => decide (ubit q k = 1)
theorem bl_len (q : List UInt8) : (bl q).length = 8 * q.length := by simp [bl]
theorem bl_bn (q : List UInt8) (k : Nat) (h : k < 8 * q.length) : bn (bl q) k = ubit q k := by
  have := ubit_lt q k
  simp [bn, bl, h]
  have : ubit q k = 0 ∨ ubit q k = 1 := by omega
  rcases this with e | e <;> simp [e]
theorem bl_get (q : List UInt8) (k : Nat) (h : k < 8 * q.length) : (bs (zb (bl q)))[k]? = some (.int .u8 (ubit q k : Int)) := by
  rw [bs_get _ _ (by rw [zb_len, bl_len]; exact h), zb_byt _ _ (by rw [bl_len]; exact h), bl_bn q k h]
theorem bl_take (q : List UInt8) (k : Nat) (h : k < q.length) : bl (q.take (k + 1)) = bl (q.take k) ++ vbits (q.getD k 0).toNat 8 := by
  apply List.ext_getElem?
  intro j
  have h1 : (q.take (k + 1)).length = k + 1 := by simp; omega
  have h2 : (q.take k).length = k := by simp; omega
  by_cases hj : j < 8 * k
  · rw [List.getElem?_append_left (by rw [bl_len, h2]; exact hj)]
    simp only [bl, List.getElem?_map]
    rw [List.getElem?_range (by omega), List.getElem?_range (by omega)]
    simp only [Option.map_some, ubit, List.getD, List.getElem?_take]
    rw [if_pos (by omega), if_pos (by omega)]
  · by_cases hj2 : j < 8 * (k + 1)
    · rw [List.getElem?_append_right (by rw [bl_len, h2]; omega), bl_len, h2]
      simp only [bl, vbits, List.getElem?_map]
      rw [List.getElem?_range (by omega), List.getElem?_range (by omega)]
      simp only [Option.map_some, ubit, List.getD, List.getElem?_take]
      rw [if_pos (by omega), show j / 8 = k by omega, show 7 - j % 8 = 8 - 1 - (j - 8 * k) by omega]
      rfl
    · rw [List.getElem?_eq_none (by rw [bl_len, h1]; omega), List.getElem?_eq_none (by rw [List.length_append, bl_len, h2, vbits_len]; omega)]

theorem ubit_last (q : List UInt8) (r : Nat) (hq : q.length ≠ 0) (hr : r < 8) : ubit q (8 * q.length - 1 - r) = lastB q / 2 ^ r % 2 := by
  unfold ubit lastB
  rw [show (8 * q.length - 1 - r) / 8 = q.length - 1 by omega, show 7 - (8 * q.length - 1 - r) % 8 = r by omega]
theorem nb_one (q : List UInt8) (hq : q.length ≠ 0) (hb : lastB q ≠ 0) : ubit q (nb q) = 1 ∧ nb q < 8 * q.length ∧ ∀ j, nb q < j → j < 8 * q.length → ubit q j = 0 := by
  have hlt : lastB q < 256 := UInt8.toNat_lt _
  obtain ⟨h1, h2, h3⟩ := (tz8_fact _ hlt).resolve_left hb
  refine ⟨?_, by unfold nb; omega, fun j hj hj2 => ?_⟩
  · rw [nb, ubit_last q _ hq h1, h2]
  · unfold nb at hj
    have := ubit_last q (8 * q.length - 1 - j) hq (by omega)
    rw [show 8 * q.length - 1 - (8 * q.length - 1 - j) = j by omega] at this
    rw [this]
    exact (h3 _ (by omega)).resolve_left (by omega)

end Go.Proofs.YtbhdollgohgkgaaGreatDoor.Sc

namespace Go.Proofs.YtbhdollgohgkgaaGreatDoor.Sc
set_option linter.all false
set_option linter.unusedVariables false
set_option linter.unusedSimpArgs false
open Pm Ty Go.RowKit

/-- The reference's reader. -/
def rR (j v n a : Nat) : Blk := ⟨142, 0, [.msl j v 0 n 1 true, .int .i64 (a : Int)]⟩
def rB (q : List UInt8) (v : Nat) : Blk := ⟨5, v, bs (zb (bl q))⟩

theorem rleft_ref (i j v : Nat) (q : List UInt8) (n a : Nat) (H : Heap) (hA : H[i]? = some (rR j v n a)) (hB : H[j]? = some (rB q v)) (ha : a ≤ n) (hn : n ≤ 1000000000) : CallOk Tryz.prog 62 [.ptr i 0 0] H (.int .i64 ((n - a : Nat) : Int)) H := by
  have e : (n : Int) - (a : Int) = ((n - a : Nat) : Int) := by omega
  refine CallOk.body (F0 := [(0, .ptr i 0 0)]) Tryz.func62 rfl Tryz.ntmps62 Tryz.results62 rfl (by kernel_rfl) rfl ?_
  (repeat refine PW.seq ?_); refine PW.rg rfl fun K hK => ?_; simp (maxSteps := 3000000) (disch := omega) only [go_sem, ↓reduceIte, reduceCtorEq, pappend, plen]; refine hK _ _ ?_; clear hK K
  (repeat refine PW.seq ?_); refine PW.draw mix (by kernel_rfl) fun K hK => ?_; simp (maxSteps := 3000000) (disch := omega) only [go_sem, ↓reduceIte, reduceCtorEq, pappend, plen, hA, hB, rR, rB, e]; refine hK _ _ ?_; clear hK K
  exact PW.ret ⟨_, rfl, Fin.now⟩

theorem rtake_ref (i j v : Nat) (q : List UInt8) (n a m : Nat) (H : Heap) (hA : H[i]? = some (rR j v n a)) (hB : H[j]? = some (rB q v)) (hne : i ≠ j) (ha : a + m ≤ n) (hn : n ≤ 8 * q.length) (hq : q.length ≤ 100000000) (hm : m ≤ 32) :
    CallOk Tryz.prog 63 [.ptr i 0 0, .int .i64 (m : Int)] H (.tup [.int .u32 (vl q a m : Int), .int .i64 0]) (H.set i (rR j v n (a + m))) := by
  have hi := (List.getElem?_eq_some_iff.1 hA).1
  have hlf := rleft_ref i j v q n a H hA hB (by omega) (by omega)
  refine CallOk.body (F0 := [(0, .ptr i 0 0), (1, .int .i64 (m : Int))]) Tryz.func63 rfl Tryz.ntmps63 Tryz.results63 rfl (by kernel_rfl) rfl ?_
  (repeat refine PW.seq ?_); refine PW.rg rfl fun K hK => ?_; simp (maxSteps := 3000000) (disch := omega) only [go_sem, ↓reduceIte, reduceCtorEq, pappend, plen]; refine hK _ _ ?_; clear hK K
  (repeat refine PW.seq ?_); refine PW.rg rfl fun K hK => ?_; simp (maxSteps := 3000000) (disch := omega) only [go_sem, ↓reduceIte, reduceCtorEq, pappend, plen]; refine hK _ _ ?_; clear hK K
  (repeat refine PW.seq ?_); refine PW.cond (t := _) rfl (fun h => ?_) (fun h => ?_)
  · cases h
  refine PW.skip ?_
  (repeat refine PW.seq ?_); refine PW.rg rfl fun K hK => ?_; simp (maxSteps := 3000000) (disch := omega) only [go_sem, ↓reduceIte, reduceCtorEq, pappend, plen]; refine VCx.call (hlf) rfl ?_; simp (maxSteps := 3000000) (disch := omega) only [go_sem, ↓reduceIte, reduceCtorEq, pappend, plen]; refine hK _ _ ?_; clear hK K
  (repeat refine PW.seq ?_); refine PW.cond (t := _) rfl (fun h => ?_) (fun h => ?_)
  · cases h
  refine PW.skip ?_
  (repeat refine PW.seq ?_); refine PW.rg rfl fun K hK => ?_; simp (maxSteps := 3000000) (disch := omega) only [go_sem, ↓reduceIte, reduceCtorEq, pappend, plen]; refine hK _ _ ?_; clear hK K
  (repeat refine PW.seq ?_); refine PW.rg rfl fun K hK => ?_; simp (maxSteps := 3000000) (disch := omega) only [go_sem, ↓reduceIte, reduceCtorEq, pappend, plen]; refine hK _ _ ?_; clear hK K
  (repeat refine PW.seq ?_); refine PW.block (PW.loop ?_)
  suffices hloop : ∀ (k : Nat), k ≤ m → PL Tryz.prog _ _ [(0, .ptr i 0 0), (1, .int .i64 (m : Int)), (6, .int .u32 (vl q a k : Int)), (7, .int .i64 (k : Int))] H _ by
    exact PL.at [0, 1, 6, 7] (hloop 0 (Nat.zero_le _)) rfl rfl
  intro k hk
  induction hmk : m - k using Nat.strongRecOn generalizing k with
  | _ r ih =>
    refine PL.round ?_; (repeat refine PW.seq ?_); refine PW.rg rfl fun K hK => ?_; simp (maxSteps := 3000000) (disch := omega) only [go_sem, ↓reduceIte, reduceCtorEq, pappend, plen]; refine hK _ _ ?_; clear hK K
    (repeat refine PW.seq ?_); refine PW.cond (t := _) rfl (fun h => ?_) (fun h => ?_)
    · have h4 : k < m := by have := of_decide_eq_true h; omega
      have hnext := ih (m - (k + 1)) (by omega) (k + 1) (by omega) rfl
      have hul := ubit_lt q (a + k)
      have hvl := vl_lt q a k
      have hvl2 : 2 * vl q a k < 4294967296 := by
        have : 2 ^ k ≤ 2 ^ 31 := Nat.pow_le_pow_right (by omega) (by omega)
        omega
      have e4 : (a : Int) + (k : Int) = ((a + k : Nat) : Int) := by omega
      have hbl := bl_len q
      refine PW.skip ?_; (repeat refine PW.seq ?_); refine PW.block ?_
      (repeat refine PW.seq ?_); refine PW.draw mix (by kernel_rfl) fun K hK => ?_; simp (maxSteps := 3000000) (disch := omega) only [go_sem, ↓reduceIte, reduceCtorEq, pappend, plen, hA, hB, rR, rB, e4, length_bs, zb_len, hbl, bl_get, pshl1_u32, por_u32]; refine hK _ _ ?_; clear hK K
      (repeat refine PW.seq ?_); refine PW.rg rfl fun K hK => ?_; simp (maxSteps := 3000000) (disch := omega) only [go_sem, ↓reduceIte, reduceCtorEq, pappend, plen]; refine hK _ _ ?_; clear hK K
      exact PL.at [0, 1, 6, 7] hnext rfl rfl
    · have h4 : k = m := by have := of_decide_eq_false h; omega
      subst h4
      have e4 : (a : Int) + (k : Int) = ((a + k : Nat) : Int) := by omega
      refine PW.exit ?_
      (repeat refine PW.seq ?_); refine PW.rg rfl fun K hK => ?_; simp (maxSteps := 3000000) (disch := omega) only [go_sem, ↓reduceIte, reduceCtorEq, pappend, plen, hA, rR, e4]; refine hK _ _ ?_; clear hK K
      (repeat refine PW.seq ?_); refine PW.rg rfl fun K hK => ?_; simp (maxSteps := 3000000) (disch := omega) only [go_sem, ↓reduceIte, reduceCtorEq, pappend, plen]; refine hK _ _ ?_; clear hK K
      exact PW.ret ⟨_, rfl, Fin.now⟩
theorem rtake_shr (i j v : Nat) (q : List UInt8) (n a m : Nat) (H : Heap) (hA : H[i]? = some (rR j v n a)) (hB : H[j]? = some (rB q v)) (ha : a ≤ n) (hn : n ≤ 1000000000) (hm : m ≤ 32) (hs : n - a < m) :
    CallOk Tryz.prog 63 [.ptr i 0 0, .int .i64 (m : Int)] H (.tup [.int .u32 0, .int .i64 4]) H := by
  have hlf := rleft_ref i j v q n a H hA hB ha hn
  have d1 : decide (((n - a : Nat) : Int) < (m : Int)) = true := decide_eq_true (by omega)
  refine CallOk.body (F0 := [(0, .ptr i 0 0), (1, .int .i64 (m : Int))]) Tryz.func63 rfl Tryz.ntmps63 Tryz.results63 rfl (by kernel_rfl) rfl ?_
  (repeat refine PW.seq ?_); refine PW.rg rfl fun K hK => ?_; simp (maxSteps := 3000000) (disch := omega) only [go_sem, ↓reduceIte, reduceCtorEq, pappend, plen]; refine hK _ _ ?_; clear hK K
  (repeat refine PW.seq ?_); refine PW.rg rfl fun K hK => ?_; simp (maxSteps := 3000000) (disch := omega) only [go_sem, ↓reduceIte, reduceCtorEq, pappend, plen]; refine hK _ _ ?_; clear hK K
  (repeat refine PW.seq ?_); refine PW.cond (t := _) rfl (fun h => ?_) (fun h => ?_)
  · cases h
  refine PW.skip ?_
  (repeat refine PW.seq ?_); refine PW.rg rfl fun K hK => ?_; simp (maxSteps := 3000000) (disch := omega) only [go_sem, ↓reduceIte, reduceCtorEq, pappend, plen, d1]; refine VCx.call (hlf) rfl ?_; simp (maxSteps := 3000000) (disch := omega) only [go_sem, ↓reduceIte, reduceCtorEq, pappend, plen, d1]; refine hK _ _ ?_; clear hK K
  (repeat refine PW.seq ?_); refine PW.cond (t := _) rfl (fun h => ?_) (fun h => ?_)
  rotate_left
  · cases h
  (repeat refine PW.seq ?_); refine PW.rg rfl fun K hK => ?_; simp (maxSteps := 3000000) (disch := omega) only [go_sem, ↓reduceIte, reduceCtorEq, pappend, plen]; refine hK _ _ ?_; clear hK K
  exact PW.ret ⟨_, rfl, Fin.now⟩

end Go.Proofs.YtbhdollgohgkgaaGreatDoor.Sc

namespace Go.Proofs.YtbhdollgohgkgaaGreatDoor.Sc
set_option linter.all false
set_option linter.unusedVariables false
set_option linter.unusedSimpArgs false
open Pm Ty Go.RowKit

theorem open_bad (q : List UInt8) (f : Bool) (H : Heap) (hl : q.length ≤ 100000000) (hb : q.length = 0 ∨ lastB q = 0) :
    CallOk Tryz.prog 55 [.slice (bs q) q.length f] H (.tup [.nilp, .int .i64 3]) H := by
  refine CallOk.body (F0 := [(0, .slice (bs q) q.length f)]) Tryz.func55 rfl Tryz.ntmps55 Tryz.results55 rfl (by kernel_rfl) rfl ?_
  by_cases h0 : q.length = 0
  · (repeat refine PW.seq ?_); refine PW.rg rfl fun K hK => ?_; simp (maxSteps := 3000000) (disch := omega) only [go_sem, ↓reduceIte, reduceCtorEq, pappend, plen]; refine hK _ _ ?_; clear hK K
    (repeat refine PW.seq ?_); refine PW.rg rfl fun K hK => ?_; simp (maxSteps := 3000000) (disch := omega) only [go_sem, ↓reduceIte, reduceCtorEq, pappend, plen, h0]
    refine hK _ _ ?_; clear hK K
    (repeat refine PW.seq ?_); refine PW.cond (t := _) rfl (fun h => ?_) (fun h => ?_)
    · (repeat refine PW.seq ?_); refine PW.rg rfl fun K hK => ?_; simp (maxSteps := 3000000) (disch := omega) only [go_sem, ↓reduceIte, reduceCtorEq, pappend, plen]; refine hK _ _ ?_; clear hK K
      exact PW.ret ⟨_, rfl, Fin.now⟩
    · cases h
  · have e1 : (q.length : Int) - 1 = ((q.length - 1 : Nat) : Int) := by omega
    have hby : byt q (q.length - 1) = 0 := by
      have : byt q (q.length - 1) = (lastB q : Int) := rfl
      omega
    (repeat refine PW.seq ?_); refine PW.rg rfl fun K hK => ?_; simp (maxSteps := 3000000) (disch := omega) only [go_sem, ↓reduceIte, reduceCtorEq, pappend, plen]; refine hK _ _ ?_; clear hK K
    (repeat refine PW.seq ?_); refine PW.rg rfl fun K hK => ?_; simp (maxSteps := 3000000) (disch := omega) only [go_sem, ↓reduceIte, reduceCtorEq, pappend, plen, e1, bs_get, length_bs, hby]
    refine hK _ _ ?_; clear hK K
    (repeat refine PW.seq ?_); refine PW.cond (t := _) rfl (fun h => ?_) (fun h => ?_)
    · (repeat refine PW.seq ?_); refine PW.rg rfl fun K hK => ?_; simp (maxSteps := 3000000) (disch := omega) only [go_sem, ↓reduceIte, reduceCtorEq, pappend, plen]; refine hK _ _ ?_; clear hK K
      exact PW.ret ⟨_, rfl, Fin.now⟩
    · cases h
theorem open_ok (q : List UInt8) (f : Bool) (H : Heap) (hl : q.length ≤ 100000000) (hq : q.length ≠ 0) (hb : lastB q ≠ 0) :
    CallOk Tryz.prog 55 [.slice (bs q) q.length f] H (.tup [.ptr (H.length + 1) 0 0, .int .i64 0]) (H ++ [rB q (8 * q.length), rR H.length (8 * q.length) (nb q) 0]) := by
  have e1 : (q.length : Int) - 1 = ((q.length - 1 : Nat) : Int) := by omega
  have hby : byt q (q.length - 1) = (lastB q : Int) := rfl
  obtain ⟨n1, n2, n3⟩ := nb_one q hq hb
  refine CallOk.body (F0 := [(0, .slice (bs q) q.length f)]) Tryz.func55 rfl Tryz.ntmps55 Tryz.results55 rfl (by kernel_rfl) rfl ?_
  (repeat refine PW.seq ?_); refine PW.rg rfl fun K hK => ?_; simp (maxSteps := 3000000) (disch := omega) only [go_sem, ↓reduceIte, reduceCtorEq, pappend, plen]; refine hK _ _ ?_; clear hK K
  (repeat refine PW.seq ?_); refine PW.rg rfl fun K hK => ?_; simp (maxSteps := 3000000) (disch := omega) only [go_sem, ↓reduceIte, reduceCtorEq, pappend, plen, e1, bs_get, length_bs, hby]; refine hK _ _ ?_; clear hK K
  (repeat refine PW.seq ?_); refine PW.cond (t := _) rfl (fun h => ?_) (fun h => ?_)
  · cases h
  refine PW.skip ?_
  (repeat refine PW.seq ?_); refine PW.rg rfl fun K hK => ?_; simp (maxSteps := 3000000) (disch := omega) only [go_sem, ↓reduceIte, reduceCtorEq, pappend, plen]; refine hK _ _ ?_; clear hK K
  (repeat refine PW.seq ?_); refine PW.rg rfl fun K hK => ?_; simp (maxSteps := 3000000) (disch := omega) only [go_sem, ↓reduceIte, reduceCtorEq, pappend, plen]; refine hK _ _ ?_; clear hK K
  (repeat refine PW.seq ?_)
  refine PW.view (Vs.ghost 4 5 1 rfl) ?_
  refine PW.block (PW.loop ?_)
  suffices hloop : ∀ (k : Nat), k ≤ q.length → PL Tryz.prog _ _ [(0, .slice (bs q) q.length f), (4, .msl H.length (8 * k) 0 (8 * k) 1 true), (5, .int .i64 (k : Int))] (H ++ [⟨5, (8 * k), bs (zb (bl (q.take k)))⟩]) _ by
    exact PL.at [0, 4, 5] (hloop 0 (Nat.zero_le _)) (by simp (maxSteps := 3000000) (disch := omega) only [go_sem, ↓reduceIte, reduceCtorEq, pappend, plen]; simp [zb, bs, bl]) (by simp [zb, bs, bl])
  intro k hk
  induction hm : q.length - k using Nat.strongRecOn generalizing k with
  | _ m ih =>
    have hlk : (zb (bl (q.take k))).length = 8 * k := by rw [zb_len, bl_len, List.length_take]; omega
    refine PL.round ?_; (repeat refine PW.seq ?_); refine PW.rg rfl fun K hK => ?_; simp (maxSteps := 3000000) (disch := omega) only [go_sem, ↓reduceIte, reduceCtorEq, pappend, plen]; refine hK _ _ ?_; clear hK K
    (repeat refine PW.seq ?_); refine PW.cond (t := _) rfl (fun h => ?_) (fun h => ?_)
    · have h4 : k < q.length := by have := of_decide_eq_true h; omega
      have hnext := ih (q.length - (k + 1)) (by omega) (k + 1) (by omega) rfl
      rw [bl_take q k h4, zb_append, bs_append] at hnext
      have hbk : byt q k = ((q.getD k 0).toNat : Int) := rfl
      have hr := byt_range q k
      have hv8 : (vbits (q.getD k 0).toNat 8).length = 8 := vbits_len _ _
      refine PW.skip ?_; (repeat refine PW.seq ?_); refine PW.block ?_
      have hbits := bits_refF (q.getD k 0).toNat 8 (H ++ [⟨5, (8 * k), bs (zb (bl (q.take k)))⟩]) (by omega)
      (repeat refine PW.seq ?_); refine PW.rg rfl fun K hK => ?_; simp (maxSteps := 3000000) (disch := omega) only [go_sem, ↓reduceIte, reduceCtorEq, pappend, plen, bs_get, length_bs, hlk, hbk, zb_len, hv8]; refine VCx.call (hbits) rfl ?_; simp (maxSteps := 3000000) (disch := omega) only [go_sem, ↓reduceIte, reduceCtorEq, pappend, plen, bs_get, length_bs, hlk, hbk, zb_len, hv8]; refine hK _ _ ?_; clear hK K
      (repeat refine PW.seq ?_); refine PW.rg rfl fun K hK => ?_; simp (maxSteps := 3000000) (disch := omega) only [go_sem, ↓reduceIte, reduceCtorEq, pappend, plen]; refine hK _ _ ?_; clear hK K
      have hce : (bs (zb (bl (List.take k q))) ++ bs (zb (vbits (q.getD k 0).toNat 8))).length = 8 * (k + 1) := by rw [List.length_append, length_bs, length_bs, hlk, zb_len, hv8]; omega
      refine PL.at [0, 4, 5] hnext ?_ ?_
      · simp (maxSteps := 3000000) (disch := omega) only [go_sem, ↓reduceIte, reduceCtorEq, pappend, plen]
        rw [hce]; rfl
      · rw [hce]
    · have h4 : k = q.length := by have := of_decide_eq_false h; omega
      subst h4
      rw [List.take_of_length_le (Nat.le_refl _)] at hlk ⊢
      refine PW.exit ?_
      have hbl := bl_len q
      have e2 : ((8 * q.length : Nat) : Int) - 1 = ((8 * q.length - 1 : Nat) : Int) := by omega
      (repeat refine PW.seq ?_); refine PW.rg rfl fun K hK => ?_; simp (maxSteps := 3000000) (disch := omega) only [go_sem, ↓reduceIte, reduceCtorEq, pappend, plen, length_bs, e2]; refine hK _ _ ?_; clear hK K
      (repeat refine PW.seq ?_); refine PW.block (PW.loop ?_)
      clear ih
      suffices hloop : ∀ (m : Nat), nb q ≤ m → m < 8 * q.length → PL Tryz.prog _ _ [(4, .msl H.length (8 * q.length) 0 (8 * q.length) 1 true), (6, .int .i64 (m : Int))] (H ++ [⟨5, 8 * q.length, bs (zb (bl q))⟩]) _ by
        exact PL.at [4, 6] (hloop (8 * q.length - 1) (by omega) (by omega)) rfl rfl
      intro m hm1 hm2
      induction m using Nat.strongRecOn with
      | _ m ih =>
        refine PL.round ?_
        by_cases h5 : m = nb q
        · have h6 : ubit q m = 1 := by rw [h5]; exact n1
          (repeat refine PW.seq ?_); refine PW.rg rfl fun K hK => ?_; simp (maxSteps := 3000000) (disch := omega) only [go_sem, ↓reduceIte, reduceCtorEq, pappend, plen, length_bs, zb_len, hbl, bl_get, h6]; refine hK _ _ ?_; clear hK K
          (repeat refine PW.seq ?_); refine PW.cond (t := _) rfl (fun h => ?_) (fun h => ?_)
          · cases h
          refine PW.exit ?_
          (repeat refine PW.seq ?_); refine PW.rg rfl fun K hK => ?_; simp (maxSteps := 3000000) (disch := omega) only [go_sem, ↓reduceIte, reduceCtorEq, pappend, plen, h5]; refine hK _ _ ?_; clear hK K
          exact PW.ret ⟨_, rfl, Fin.now⟩
        · have h6 : ubit q m = 0 := n3 m (by omega) hm2
          have e3 : (m : Int) - 1 = ((m - 1 : Nat) : Int) := by omega
          (repeat refine PW.seq ?_); refine PW.rg rfl fun K hK => ?_; simp (maxSteps := 3000000) (disch := omega) only [go_sem, ↓reduceIte, reduceCtorEq, pappend, plen, length_bs, zb_len, hbl, bl_get, h6]; refine hK _ _ ?_; clear hK K
          (repeat refine PW.seq ?_); refine PW.cond (t := _) rfl (fun h => ?_) (fun h => ?_)
          · refine PW.skip ?_; (repeat refine PW.seq ?_); refine PW.block ?_
            (repeat refine PW.seq ?_); refine PW.rg rfl fun K hK => ?_; simp (maxSteps := 3000000) (disch := omega) only [go_sem, ↓reduceIte, reduceCtorEq, pappend, plen, e3]; refine hK _ _ ?_; clear hK K
            exact PL.at [4, 6] (ih (m - 1) (by omega) (by omega) (by omega)) rfl rfl
          · cases h

end Go.Proofs.YtbhdollgohgkgaaGreatDoor.Sc

namespace Go.Proofs.YtbhdollgohgkgaaGreatDoor.Sc
set_option linter.all false
set_option linter.unusedVariables false
set_option linter.unusedSimpArgs false
open Pm Ty Go.RowKit

theorem ubit_pk (l : List Bool) (k : Nat) (h : k / 8 < (l.length + 7) / 8) : ubit (pk l) k = bn l k := by
  have h1 : ((pk l).getD (k / 8) 0).toNat = pkN l (k / 8) := by
    have := pk_byt l (k / 8) h
    simp only [byt] at this
    omega
  unfold ubit
  rw [h1]
  obtain ⟨i, r, rfl, hr⟩ : ∃ i r, k = 8 * i + r ∧ r < 8 := ⟨k / 8, k % 8, by omega, by omega⟩
  rw [show (8 * i + r) / 8 = i by omega, show (8 * i + r) % 8 = r by omega]
  unfold pkN
  have b0 := bn_lt l (8 * i)
  have b1 := bn_lt l (8 * i + 1)
  have b2 := bn_lt l (8 * i + 2)
  have b3 := bn_lt l (8 * i + 3)
  have b4 := bn_lt l (8 * i + 4)
  have b5 := bn_lt l (8 * i + 5)
  have b6 := bn_lt l (8 * i + 6)
  have b7 := bn_lt l (8 * i + 7)
  have h3 : r = 0 ∨ r = 1 ∨ r = 2 ∨ r = 3 ∨ r = 4 ∨ r = 5 ∨ r = 6 ∨ r = 7 := by omega
  rcases h3 with rfl | rfl | rfl | rfl | rfl | rfl | rfl | rfl
  all_goals (simp only [Nat.reduceSub, Nat.reducePow, Nat.add_zero]; omega)
theorem vl_bits (q : List UInt8) (a n V : Nat) (h : ∀ i < n, ubit q (a + i) = V / 2 ^ (n - 1 - i) % 2) : ∀ k ≤ n, vl q a k = V / 2 ^ (n - k) % 2 ^ k
  | 0, _ => by simp [vl, Nat.mod_one]
  | k + 1, hk => by
    rw [vl, vl_bits q a n V h k (by omega), h k (by omega), show n - k = (n - 1 - k) + 1 by omega, show n - (k + 1) = n - 1 - k by omega, Nat.pow_succ 2 (n - 1 - k), ← Nat.div_div_eq_div_mul, Nat.pow_succ 2 k, Nat.mul_comm (2 ^ k) 2, Nat.mod_mul]
    omega
theorem vl_all (q : List UInt8) (a n V : Nat) (hV : V < 2 ^ n) (h : ∀ i < n, ubit q (a + i) = V / 2 ^ (n - 1 - i) % 2) : vl q a n = V := by
  rw [vl_bits q a n V h n (Nat.le_refl _), Nat.sub_self, Nat.pow_zero, Nat.div_one, Nat.mod_eq_of_lt hV]

theorem bn_left (l m : List Bool) (k : Nat) (h : k < l.length) : bn (l ++ m) k = bn l k := by unfold bn; rw [List.getElem?_append_left h]
theorem bn_right (l m : List Bool) (k : Nat) (h : l.length ≤ k) : bn (l ++ m) k = bn m (k - l.length) := by unfold bn; rw [List.getElem?_append_right h]
theorem bn_vbits (V n i : Nat) (h : i < n) : bn (vbits V n) i = V / 2 ^ (n - 1 - i) % 2 := by
  unfold bn vbits
  rw [List.getElem?_map, List.getElem?_range h, Option.map_some, Option.getD_some, bit_toNat]

/-- A payload: the bits, and the end mark. -/
theorem pk_payload (L : List Bool) : (pk (L ++ [true])).length ≠ 0 ∧ lastB (pk (L ++ [true])) ≠ 0 ∧ nb (pk (L ++ [true])) = L.length ∧ L.length ≤ 8 * (pk (L ++ [true])).length ∧ ∀ k, k < L.length → ubit (pk (L ++ [true])) k = bn L k := by
  have hl : (L ++ [true]).length = L.length + 1 := by simp
  have hlen : (pk (L ++ [true])).length = (L.length + 8) / 8 := by rw [pk_len, hl]
  have hu : ∀ k, k < 8 * ((L.length + 8) / 8) → ubit (pk (L ++ [true])) k = bn (L ++ [true]) k := fun k hk => ubit_pk _ k (by rw [hl]; omega)
  have h1 : ubit (pk (L ++ [true])) L.length = 1 := by
    rw [hu _ (by omega), bn_right _ _ _ (Nat.le_refl _), Nat.sub_self]; rfl
  have hq : (pk (L ++ [true])).length ≠ 0 := by omega
  have hb : lastB (pk (L ++ [true])) ≠ 0 := fun e => by
    have := ubit_last (pk (L ++ [true])) (8 * (pk (L ++ [true])).length - 1 - L.length) hq (by omega)
    rw [e, Nat.zero_div, show 8 * (pk (L ++ [true])).length - 1 - (8 * (pk (L ++ [true])).length - 1 - L.length) = L.length by omega, h1] at this
    omega
  obtain ⟨n1, n2, n3⟩ := nb_one _ hq hb
  refine ⟨hq, hb, ?_, by omega, fun k hk => by rw [hu k (by omega), bn_left _ _ _ hk]⟩
  rcases Nat.lt_trichotomy (nb (pk (L ++ [true]))) L.length with h | h | h
  · have := n3 _ h (by omega)
    omega
  · exact h
  · have h2 := hu _ (by omega : nb (pk (L ++ [true])) < _)
    rw [n1, bn_out _ _ (by rw [hl]; omega)] at h2
    omega

end Go.Proofs.YtbhdollgohgkgaaGreatDoor.Sc
