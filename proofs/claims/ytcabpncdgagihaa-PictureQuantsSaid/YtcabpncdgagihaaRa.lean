/-
  Reading numbers: what is read. No program in sight.
-/
import Derived.Test.YtcabpncdgagihaaBr
namespace Go.Proofs.Ytcabpncdgagihaa.Sc
set_option linter.all false
set_option linter.unusedVariables false
set_option linter.unusedSimpArgs false
open Pm Ty Go.RowKit

/-- What a reader returns: a value, or an error (its number less 1); and its place. -/
inductive Rr (α : Type) where
  | ok (v : α) (a : Nat)
  | er (e : Nat) (a : Nat)
def Rr.bind {α β : Type} (x : Rr α) (f : α → Nat → Rr β) : Rr β := match x with | .ok v a => f v a | .er e a => .er e a
def Rr.at {α : Type} : Rr α → Nat | .ok _ a => a | .er _ a => a
theorem Rr.bind_ok {α β : Type} (v : α) (a : Nat) (f : α → Nat → Rr β) : (Rr.ok v a).bind f = f v a := rfl
theorem Rr.bind_er {α β : Type} (e a : Nat) (f : α → Nat → Rr β) : (Rr.er e a : Rr α).bind f = .er e a := rfl
theorem Rr.bind_bind {α β γ : Type} (x : Rr α) (f : α → Nat → Rr β) (g : β → Nat → Rr γ) : (x.bind f).bind g = x.bind fun v a => (f v a).bind g := by cases x <;> rfl

theorem vl_add (p : List UInt8) (a m : Nat) : ∀ n, vl p a (m + n) = vl p a m * 2 ^ n + vl p (a + m) n
  | 0 => by simp [vl]
  | n + 1 => by
    rw [show m + (n + 1) = (m + n) + 1 by omega, vl, vl_add p a m n, vl, Nat.pow_succ, show a + (m + n) = a + m + n by omega, ← Nat.mul_assoc]
    omega

/-- The number of bits 0 from place a on; at most c are looked at. -/
def zrs (q : List UInt8) (n : Nat) : Nat → Nat → Nat
  | 0, _ => 0
  | c + 1, a => if a < n ∧ ubit q a = 0 then zrs q n c (a + 1) + 1 else 0
section
variable {q : List UInt8} {n : Nat}
theorem zrs_le : ∀ (c a : Nat), zrs q n c a ≤ c
  | 0, a => by simp [zrs]
  | c + 1, a => by
    have := zrs_le c (a + 1)
    simp only [zrs]; split <;> omega
theorem zrs_step {c a : Nat} (h : a < n) (h0 : ubit q a = 0) : zrs q n (c + 1) a = zrs q n c (a + 1) + 1 := by
  simp only [zrs]; rw [if_pos ⟨h, h0⟩]
theorem zrs_end {c a : Nat} (h : n ≤ a) : zrs q n c a = 0 := by
  cases c with
  | zero => rfl
  | succ c => simp only [zrs]; rw [if_neg (by omega)]
theorem zrs_one {c a : Nat} (h : ubit q a = 1) : zrs q n c a = 0 := by
  cases c with
  | zero => rfl
  | succ c => simp only [zrs]; rw [if_neg (by omega)]
theorem zrs_vl : ∀ (c a k : Nat), k ≤ zrs q n c a → vl q a k = 0
  | 0, a, k, h => by
    have : k = 0 := by simpa [zrs] using h
    subst this; rfl
  | c + 1, a, k, h => by
    simp only [zrs] at h
    split at h
    · rename_i hh
      cases k with
      | zero => rfl
      | succ k =>
        rw [show k + 1 = 1 + k by omega, vl_add, zrs_vl c (a + 1) k (by omega)]
        simp [vl, hh.2]
    · have : k = 0 := by omega
      subst this; rfl
theorem zrs_at : ∀ (c a : Nat), zrs q n c a < c → a + zrs q n c a < n → ubit q (a + zrs q n c a) = 1
  | 0, a, h, _ => by omega
  | c + 1, a, h, h2 => by
    simp only [zrs] at h h2 ⊢
    split at h
    · rename_i hh
      rw [if_pos hh] at h2 ⊢
      have := zrs_at c (a + 1) (by omega) (by omega)
      rwa [show a + (zrs q n c (a + 1) + 1) = a + 1 + zrs q n c (a + 1) by omega]
    · rename_i hh
      rw [if_neg hh] at h2 ⊢
      have := ubit_lt q a
      have h3 : ¬ ubit q a = 0 := fun e => hh ⟨by omega, e⟩
      rw [Nat.add_zero]; omega
end

/-- The number whose code begins at place a. -/
def tkU (q : List UInt8) (n a : Nat) : Rr Nat :=
  if zrs q n 16 a = 16 then .er 2 a else if n - a < 2 * zrs q n 16 a + 1 then .er 3 a else .ok (2 ^ zrs q n 16 a + vl q (a + zrs q n 16 a + 1) (zrs q n 16 a) - 1) (a + (2 * zrs q n 16 a + 1))
def usg (v : Nat) : Int := if v % 2 = 1 then ((v + 1) / 2 : Nat) else -((v / 2 : Nat) : Int)
def tkS (q : List UInt8) (n a : Nat) : Rr Int := (tkU q n a).bind fun v a => .ok (usg v) a
theorem tkU_b {q : List UInt8} {n a v a1 : Nat} (h : tkU q n a = .ok v a1) (ha : a ≤ n) : v ≤ 65534 ∧ a < a1 ∧ a1 ≤ n := by
  unfold tkU at h
  split at h
  · cases h
  · split at h
    · cases h
    · have h1 := zrs_le (q := q) (n := n) 16 a
      injection h with h2 h3
      have h4 : zrs q n 16 a ≤ 15 := by omega
      have h5 := vl_lt q (a + zrs q n 16 a + 1) (zrs q n 16 a)
      have h6 : 2 ^ zrs q n 16 a ≤ 2 ^ 15 := Nat.pow_le_pow_right (by omega) h4
      omega
theorem tkU_e {q : List UInt8} {n a e a1 : Nat} (h : tkU q n a = .er e a1) : a1 = a ∧ e ≤ 3 := by
  unfold tkU at h
  split at h
  · injection h with h2 h3; omega
  · split at h
    · injection h with h2 h3; omega
    · cases h
/-- As one number. -/
theorem tkU_vl (q : List UInt8) (n a : Nat) (h : ¬ zrs q n 16 a = 16) (h2 : ¬ n - a < 2 * zrs q n 16 a + 1) : vl q a (2 * zrs q n 16 a + 1) = 2 ^ zrs q n 16 a + vl q (a + zrs q n 16 a + 1) (zrs q n 16 a) := by
  have h1 := zrs_le (q := q) (n := n) 16 a
  have h3 := zrs_at (q := q) (n := n) 16 a (by omega) (by omega)
  have h4 := zrs_vl (q := q) (n := n) 16 a (zrs q n 16 a) (Nat.le_refl _)
  generalize zrs q n 16 a = k at *
  rw [show 2 * k + 1 = k + (1 + k) by omega, vl_add, vl_add, h4]
  simp only [vl, Nat.add_zero, h3, Nat.zero_mul, Nat.zero_add, Nat.mul_zero, Nat.one_mul]
theorem usg_b (v : Nat) (h : v ≤ 65534) : -32767 ≤ usg v ∧ usg v ≤ 32767 := by unfold usg; split <;> omega
theorem tkS_b {q : List UInt8} {n a a1 : Nat} {v : Int} (h : tkS q n a = .ok v a1) (ha : a ≤ n) : (-32767 ≤ v ∧ v ≤ 32767) ∧ a < a1 ∧ a1 ≤ n := by
  unfold tkS at h
  cases hu : tkU q n a with
  | er e a2 => rw [hu] at h; cases h
  | ok w a2 =>
    rw [hu] at h
    injection h with h2 h3
    have := tkU_b hu ha
    subst h2 h3
    exact ⟨usg_b w this.1, this.2⟩
theorem tkS_e {q : List UInt8} {n a e a1 : Nat} (h : tkS q n a = .er e a1) : a1 = a ∧ e ≤ 3 := by
  unfold tkS at h
  cases hu : tkU q n a with
  | ok w a2 => rw [hu] at h; cases h
  | er e a2 =>
    rw [hu] at h
    injection h with h2 h3
    have := tkU_e hu
    omega

end Go.Proofs.Ytcabpncdgagihaa.Sc
