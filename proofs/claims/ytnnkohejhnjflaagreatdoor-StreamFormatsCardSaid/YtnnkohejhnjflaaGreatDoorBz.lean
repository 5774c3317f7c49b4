/-
  Bits of packed bytes. No program in sight.
-/
import Derived.Test.YtnnkohejhnjflaaGreatDoorBv
namespace Go.Proofs.YtnnkohejhnjflaaGreatDoor.Sc
set_option linter.all false
set_option linter.unusedVariables false
set_option linter.unusedSimpArgs false
open Pm Ty Go.RowKit

theorem ubit_pk (l : List Bool) (k : Nat) (h : k / 8 < (l.length + 7) / 8) : ubit (pk l) k = bn l k := by
  have h1 : ((pk l).getD (k / 8) 0).toNat = pkN l (k / 8) := by
    have := pk_byt l (k / 8) h
    simp only [byt] at this
    omega
  unfold ubit
  rw [h1]
  obtain ⟨i, r, rfl, hr⟩ : ∃ i r, k = 8 * i + r ∧ r < 8 := ⟨k / 8, k % 8, by omega, by omega⟩
  rw [show (8 * i + r) / 8 = i by omega, show (8 * i + r) % 8 = r by omega]
  unfold pkN
  have b0 := bn_lt l (8 * i)
  have b1 := bn_lt l (8 * i + 1)
  have b2 := bn_lt l (8 * i + 2)
  have b3 := bn_lt l (8 * i + 3)
  have b4 := bn_lt l (8 * i + 4)
  have b5 := bn_lt l (8 * i + 5)
  have b6 := bn_lt l (8 * i + 6)
  have b7 := bn_lt l (8 * i + 7)
  have h3 : r = 0 ∨ r = 1 ∨ r = 2 ∨ r = 3 ∨ r = 4 ∨ r = 5 ∨ r = 6 ∨ r = 7 := by omega
  rcases h3 with rfl | rfl | rfl | rfl | rfl | rfl | rfl | rfl
  all_goals (simp only [Nat.reduceSub, Nat.reducePow, Nat.add_zero]; omega)
theorem vl_bits (q : List UInt8) (a n V : Nat) (h : ∀ i < n, ubit q (a + i) = V / 2 ^ (n - 1 - i) % 2) : ∀ k ≤ n, vl q a k = V / 2 ^ (n - k) % 2 ^ k
  | 0, _ => by simp [vl, Nat.mod_one]
  | k + 1, hk => by
    rw [vl, vl_bits q a n V h k (by omega), h k (by omega), show n - k = (n - 1 - k) + 1 by omega, show n - (k + 1) = n - 1 - k by omega, Nat.pow_succ 2 (n - 1 - k), ← Nat.div_div_eq_div_mul, Nat.pow_succ 2 k, Nat.mul_comm (2 ^ k) 2, Nat.mod_mul]
    omega
theorem vl_all (q : List UInt8) (a n V : Nat) (hV : V < 2 ^ n) (h : ∀ i < n, ubit q (a + i) = V / 2 ^ (n - 1 - i) % 2) : vl q a n = V := by
  rw [vl_bits q a n V h n (Nat.le_refl _), Nat.sub_self, Nat.pow_zero, Nat.div_one, Nat.mod_eq_of_lt hV]

theorem bn_left (l m : List Bool) (k : Nat) (h : k < l.length) : bn (l ++ m) k = bn l k := by unfold bn; rw [List.getElem?_append_left h]
theorem bn_right (l m : List Bool) (k : Nat) (h : l.length ≤ k) : bn (l ++ m) k = bn m (k - l.length) := by unfold bn; rw [List.getElem?_append_right h]
theorem bn_vbits (V n i : Nat) (h : i < n) : bn (vbits V n) i = V / 2 ^ (n - 1 - i) % 2 := by
  unfold bn vbits
  rw [List.getElem?_map, List.getElem?_range h, Option.map_some, Option.getD_some, bit_toNat]

/-- A payload: the bits, and the end mark. -/
theorem pk_payload (L : List Bool) : (pk (L ++ [true])).length ≠ 0 ∧ lastB (pk (L ++ [true])) ≠ 0 ∧ nb (pk (L ++ [true])) = L.length ∧ L.length ≤ 8 * (pk (L ++ [true])).length ∧ ∀ k, k < L.length → ubit (pk (L ++ [true])) k = bn L k := by
  have hl : (L ++ [true]).length = L.length + 1 := by simp
  have hlen : (pk (L ++ [true])).length = (L.length + 8) / 8 := by rw [pk_len, hl]
  have hu : ∀ k, k < 8 * ((L.length + 8) / 8) → ubit (pk (L ++ [true])) k = bn (L ++ [true]) k := fun k hk => ubit_pk _ k (by rw [hl]; omega)
  have h1 : ubit (pk (L ++ [true])) L.length = 1 := by
    rw [hu _ (by omega), bn_right _ _ _ (Nat.le_refl _), Nat.sub_self]; rfl
  have hq : (pk (L ++ [true])).length ≠ 0 := by omega
  have hb : lastB (pk (L ++ [true])) ≠ 0 := fun e => by
    have := ubit_last (pk (L ++ [true])) (8 * (pk (L ++ [true])).length - 1 - L.length) hq (by omega)
    rw [e, Nat.zero_div, show 8 * (pk (L ++ [true])).length - 1 - (8 * (pk (L ++ [true])).length - 1 - L.length) = L.length by omega, h1] at this
    omega
  obtain ⟨n1, n2, n3⟩ := nb_one _ hq hb
  refine ⟨hq, hb, ?_, by omega, fun k hk => by rw [hu k (by omega), bn_left _ _ _ hk]⟩
  rcases Nat.lt_trichotomy (nb (pk (L ++ [true]))) L.length with h | h | h
  · have := n3 _ h (by omega)
    omega
  · exact h
  · have h2 := hu _ (by omega : nb (pk (L ++ [true])) < _)
    rw [n1, bn_out _ _ (by rw [hl]; omega)] at h2
    omega

end Go.Proofs.YtnnkohejhnjflaaGreatDoor.Sc
