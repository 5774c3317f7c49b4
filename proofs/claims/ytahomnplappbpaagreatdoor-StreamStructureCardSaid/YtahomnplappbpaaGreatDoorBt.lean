/-
  Bits: how a list of bits is packed into bytes. No program in sight.
-/
import Derived.Test.YtahomnplappbpaaGreatDoorBs
namespace Go.Proofs.YtahomnplappbpaaGreatDoor.Sc
set_option linter.all false
set_option linter.unusedVariables false
set_option linter.unusedSimpArgs false
open Pm Ty Go.RowKit

def bn (l : List Bool) (k : Nat) : Nat := (l[k]?.getD false).toNat
theorem bn_lt (l : List Bool) (k : Nat) : bn l k < 2 := by unfold bn; cases l[k]?.getD false <;> decide
theorem bn_out (l : List Bool) (k : Nat) (h : l.length ≤ k) : bn l k = 0 := by simp [bn, List.getElem?_eq_none h]
theorem bn_snoc (l : List Bool) (b : Bool) (k : Nat) : bn (l ++ [b]) k = if k = l.length then b.toNat else bn l k := by
  unfold bn
  by_cases h : k < l.length
  · rw [List.getElem?_append_left h, if_neg (by omega)]
  · by_cases h2 : k = l.length
    · subst h2; simp
    · rw [if_neg h2, List.getElem?_eq_none (by simp; omega), List.getElem?_eq_none (by omega)]
/-- Byte i. -/
def pkN (l : List Bool) (i : Nat) : Nat := 128 * bn l (8 * i) + 64 * bn l (8 * i + 1) + 32 * bn l (8 * i + 2) + 16 * bn l (8 * i + 3) + 8 * bn l (8 * i + 4) + 4 * bn l (8 * i + 5) + 2 * bn l (8 * i + 6) + bn l (8 * i + 7)
theorem pkN_lt (l : List Bool) (i : Nat) : pkN l i < 256 := by
  unfold pkN
  have h0 := bn_lt l (8 * i); have h1 := bn_lt l (8 * i + 1); have h2 := bn_lt l (8 * i + 2); have h3 := bn_lt l (8 * i + 3)
  have h4 := bn_lt l (8 * i + 4); have h5 := bn_lt l (8 * i + 5); have h6 := bn_lt l (8 * i + 6); have h7 := bn_lt l (8 * i + 7)
  omega
def pkB (l : List Bool) (i : Nat) : UInt8 := UInt8.ofNat (pkN l i)
theorem pkB_nat (l : List Bool) (i : Nat) : (pkB l i).toNat = pkN l i := by have := pkN_lt l i; simp [pkB]; omega
/-- The bytes of some bits; what is missing is 0. -/
def pk (l : List Bool) : List UInt8 := (List.range ((l.length + 7) / 8)).map (pkB l)
theorem pk_len (l : List Bool) : (pk l).length = (l.length + 7) / 8 := by simp [pk]
theorem pk_get (l : List Bool) (i : Nat) (h : i < (l.length + 7) / 8) : (pk l)[i]? = some (pkB l i) := by simp [pk, h]
theorem pk_byt (l : List Bool) (i : Nat) (h : i < (l.length + 7) / 8) : byt (pk l) i = (pkN l i : Int) := by
  simp [byt, pk_get l i h, pkB_nat]
/-- The bits of a byte behind the last one are 0. -/
theorem pkN_tail (l : List Bool) (q r : Nat) (h : l.length = 8 * q + r) (hr : r < 8) : pkN l q % 2 ^ (8 - r) = 0 := by
  unfold pkN
  have hz : ∀ j, r ≤ j → bn l (8 * q + j) = 0 := fun j hj => bn_out l _ (by omega)
  have : r = 0 ∨ r = 1 ∨ r = 2 ∨ r = 3 ∨ r = 4 ∨ r = 5 ∨ r = 6 ∨ r = 7 := by omega
  rcases this with rfl | rfl | rfl | rfl | rfl | rfl | rfl | rfl
  · rw [← Nat.add_zero (8 * q), hz 0 (by omega), Nat.add_zero, hz 1 (by omega), hz 2 (by omega), hz 3 (by omega), hz 4 (by omega), hz 5 (by omega), hz 6 (by omega), hz 7 (by omega)]
  · rw [hz 1 (by omega), hz 2 (by omega), hz 3 (by omega), hz 4 (by omega), hz 5 (by omega), hz 6 (by omega), hz 7 (by omega)]; omega
  · rw [hz 2 (by omega), hz 3 (by omega), hz 4 (by omega), hz 5 (by omega), hz 6 (by omega), hz 7 (by omega)]; omega
  · rw [hz 3 (by omega), hz 4 (by omega), hz 5 (by omega), hz 6 (by omega), hz 7 (by omega)]; omega
  · rw [hz 4 (by omega), hz 5 (by omega), hz 6 (by omega), hz 7 (by omega)]; omega
  · rw [hz 5 (by omega), hz 6 (by omega), hz 7 (by omega)]; omega
  · rw [hz 6 (by omega), hz 7 (by omega)]; omega
  · rw [hz 7 (by omega)]; omega
/-- One bit more. -/
theorem pkN_snoc (l : List Bool) (b : Bool) (q r : Nat) (h : l.length = 8 * q + r) (hr : r < 8) : pkN (l ++ [b]) q = pkN l q + b.toNat * 2 ^ (7 - r) := by
  unfold pkN
  simp only [bn_snoc, h]
  have hz : bn l (8 * q + r) = 0 := bn_out l _ (by omega)
  have : r = 0 ∨ r = 1 ∨ r = 2 ∨ r = 3 ∨ r = 4 ∨ r = 5 ∨ r = 6 ∨ r = 7 := by omega
  rcases this with rfl | rfl | rfl | rfl | rfl | rfl | rfl | rfl
  all_goals simp only [Nat.add_zero] at hz ⊢
  all_goals simp (disch := omega) only [if_neg, if_true, hz, Nat.reducePow, Nat.reduceSub]
  all_goals omega
theorem pkN_snoc_ne (l : List Bool) (b : Bool) (q i : Nat) (h : 8 * q ≤ l.length) (hi : i < q) : pkN (l ++ [b]) i = pkN l i := by
  unfold pkN
  simp (disch := omega) only [bn_snoc, if_neg]
theorem pk_snoc0 (l : List Bool) (b : Bool) (q : Nat) (h : l.length = 8 * q) : pk (l ++ [b]) = pk l ++ [UInt8.ofNat (b.toNat * 128)] := by
  apply List.ext_getElem?
  intro i
  by_cases h1 : i < q
  · rw [pk_get _ i (by simp; omega), List.getElem?_append_left (by rw [pk_len]; omega), pk_get _ i (by omega)]
    simp only [pkB, pkN_snoc_ne l b q i (by omega) h1]
  · by_cases h2 : i = q
    · subst h2
      rw [pk_get _ i (by simp; omega), List.getElem?_append_right (by rw [pk_len]; omega), pk_len, show i - (l.length + 7) / 8 = 0 by omega]
      have h0 : pkN l i = 0 := by
        unfold pkN
        rw [bn_out l (8 * i) (by omega), bn_out l (8 * i + 1) (by omega), bn_out l (8 * i + 2) (by omega), bn_out l (8 * i + 3) (by omega), bn_out l (8 * i + 4) (by omega), bn_out l (8 * i + 5) (by omega), bn_out l (8 * i + 6) (by omega), bn_out l (8 * i + 7) (by omega)]
      have := pkN_snoc l b i 0 (by omega) (by omega)
      simp [pkB, this, h0]
    · rw [List.getElem?_eq_none (by rw [pk_len]; simp; omega), List.getElem?_eq_none (by simp [pk_len]; omega)]
theorem pk_snoc1 (l : List Bool) (b : Bool) (q r : Nat) (h : l.length = 8 * q + r) (hr0 : 0 < r) (hr : r < 8) : pk (l ++ [b]) = (pk l).set q (UInt8.ofNat (pkN l q + b.toNat * 2 ^ (7 - r))) := by
  apply List.ext_getElem?
  intro i
  rw [List.getElem?_set]
  by_cases h1 : i < q
  · rw [if_neg (by omega), pk_get _ i (by simp; omega), pk_get _ i (by omega)]
    simp only [pkB, pkN_snoc_ne l b q i (by omega) h1]
  · by_cases h2 : i = q
    · subst h2
      rw [if_pos rfl, if_pos (by rw [pk_len]; omega), pk_get _ i (by simp; omega)]
      simp only [pkB, pkN_snoc l b i r h hr]
    · rw [if_neg (by omega), List.getElem?_eq_none (by rw [pk_len]; simp; omega), List.getElem?_eq_none (by rw [pk_len]; omega)]

/-- The n last bits of V, the most significant first. -/
def vbits (V n : Nat) : List Bool := (List.range n).map fun i => decide (V / 2 ^ (n - 1 - i) % 2 = 1)
theorem vbits_len (V n : Nat) : (vbits V n).length = n := by simp [vbits]
theorem vbits_take (V n i : Nat) (h : i < n) : (vbits V n).take (i + 1) = (vbits V n).take i ++ [decide (V / 2 ^ (n - 1 - i) % 2 = 1)] := by
  rw [List.take_succ_eq_append_getElem (by rw [vbits_len]; exact h)]
  simp [vbits]
theorem bit_toNat (m : Nat) : (decide (m % 2 = 1)).toNat = m % 2 := by
  rcases Nat.mod_two_eq_zero_or_one m with h | h <;> simp [h]

end Go.Proofs.YtahomnplappbpaaGreatDoor.Sc
