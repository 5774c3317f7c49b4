/-
  Plain laws of chapter 31: the greatest closed set of frames. No program in sight.
-/
import Derived.Test.YtnjnikafhbholaaPm
namespace Go.Proofs.Ytnjnikafhbholaa.Pl
set_option linter.all false
set_option linter.unusedVariables false
set_option linter.unusedSimpArgs false

def ty (t : List Int) (k : Nat) : Int := t.getD k 0
/-- Is the last frame before k that is no B frame in the set? -/
def kn (t : List Int) : Nat → Bool
  | 0 => false
  | k + 1 => if ty t k = 3 then kn t k else (ty t k == 1 || (ty t k == 2 && kn t k))
/-- One behind the last frame before k that is no B frame. -/
def lst (t : List Int) : Nat → Nat
  | 0 => 0
  | k + 1 => if ty t k = 3 then lst t k else k + 1
/-- The set after i frames. -/
def arr (t : List Int) : Nat → Nat → Bool
  | 0, _ => false
  | i + 1, j => if ty t i = 3 then arr t i j else if j = i then kn t (i + 1) else if lst t i ≤ j ∧ j < i then (kn t i && kn t (i + 1)) else arr t i j

theorem lst_le (t : List Int) : ∀ k, lst t k ≤ k
  | 0 => Nat.le_refl _
  | k + 1 => by
    simp only [lst]
    split
    · have := lst_le t k; omega
    · exact Nat.le_refl _
theorem lst_b (t : List Int) : ∀ k m, lst t k ≤ m → m < k → ty t m = 3
  | 0, m, _, h => by omega
  | k + 1, m, h1, h2 => by
    simp only [lst] at h1
    split at h1
    · rename_i h
      by_cases hm : m = k
      · rw [hm]; exact h
      · exact lst_b t k m h1 (by omega)
    · omega
theorem lst_nb (t : List Int) : ∀ k, 0 < lst t k → ty t (lst t k - 1) ≠ 3
  | 0, h => by simp [lst] at h
  | k + 1, h => by
    simp only [lst] at h ⊢
    split
    · rename_i h3
      rw [if_pos h3] at h
      exact lst_nb t k h
    · rename_i h3; simpa using h3
theorem lst_ge (t : List Int) : ∀ k m, m < k → ty t m ≠ 3 → m < lst t k
  | 0, m, h, _ => by omega
  | k + 1, m, h, hm => by
    simp only [lst]
    split
    · rename_i h3
      have : m ≠ k := fun e => hm (e ▸ h3)
      exact lst_ge t k m (by omega) hm
    · omega
theorem kn_lst (t : List Int) : ∀ k, kn t k = if lst t k = 0 then false else kn t (lst t k)
  | 0 => by simp [kn, lst]
  | k + 1 => by
    by_cases h3 : ty t k = 3
    · simp only [lst, kn, if_pos h3]
      exact kn_lst t k
    · have e1 : lst t (k + 1) = k + 1 := by simp [lst, h3]
      rw [e1]; simp
theorem kn_run (t : List Int) (k : Nat) : ∀ j, k ≤ j → (∀ m, k ≤ m → m < j → ty t m = 3) → kn t j = kn t k
  | 0, h, _ => by rw [show k = 0 by omega]
  | j + 1, h, hb => by
    by_cases hk : k = j + 1
    · rw [hk]
    · have h3 : ty t j = 3 := hb j (by omega) (by omega)
      simp only [kn, if_pos h3]
      exact kn_run t k j (by omega) (fun m h1 h2 => hb m h1 (by omega))
theorem arr_nb (t : List Int) (k : Nat) (hk : ty t k ≠ 3) : ∀ i, k < i → arr t i k = kn t (k + 1)
  | 0, h => by omega
  | i + 1, h => by
    simp only [arr]
    by_cases hi : k = i
    · subst hi; simp [hk]
    · have hl := lst_ge t i k (by omega) hk
      split
      · exact arr_nb t k hk i (by omega)
      · first
          | (rw [if_neg hi, if_neg (by omega)]; exact arr_nb t k hk i (by omega))
          | (rw [if_neg (by omega)]; exact arr_nb t k hk i (by omega))
theorem arr_out (t : List Int) : ∀ i j, i ≤ j → arr t i j = false
  | 0, _, _ => rfl
  | i + 1, j, h => by
    simp only [arr]
    split
    · exact arr_out t i j (by omega)
    · rw [if_neg (by omega), if_neg (by omega)]; exact arr_out t i j (by omega)
theorem arr_b0 (t : List Int) (k : Nat) (hk : ty t k = 3) : ∀ i, (∀ m, k < m → m < i → ty t m = 3) → arr t i k = false
  | 0, _ => rfl
  | i + 1, h => by
    by_cases hi : i < k
    · exact arr_out t (i + 1) k (by omega)
    · simp only [arr]
      have h3 : ty t i = 3 := by
        by_cases e : i = k
        · rw [e]; exact hk
        · exact h i (by omega) (by omega)
      rw [if_pos h3]
      exact arr_b0 t k hk i (fun m h1 h2 => h m h1 (by omega))
theorem arr_b (t : List Int) (k j : Nat) (hk : ty t k = 3) (hj : k < j) (hn : ty t j ≠ 3) (hb : ∀ m, k < m → m < j → ty t m = 3) : ∀ i, j < i → arr t i k = (kn t j && kn t (j + 1))
  | 0, h => by omega
  | i + 1, h => by
    simp only [arr]
    by_cases hi : j = i
    · subst hi
      rw [if_neg hn, if_neg (by omega)]
      have hl : lst t j ≤ k := by
        rcases Nat.lt_or_ge k (lst t j) with h1 | h1
        · exfalso
          have h2 := lst_nb t j (by omega)
          have h4 := lst_le t j
          by_cases e : lst t j - 1 = k
          · exact h2 (e ▸ hk)
          · exact h2 (hb _ (by omega) (by omega))
        · exact h1
      rw [if_pos ⟨hl, hj⟩]
    · have hl := lst_ge t i j (by omega) hn
      split
      · exact arr_b t k j hk hj hn hb i (by omega)
      · rw [if_neg (by omega), if_neg (by omega)]; exact arr_b t k j hk hj hn hb i (by omega)

/-- The first frame from k on that is no B frame, or n. -/
def nbF (t : List Int) (n : Nat) : Nat → Nat → Nat
  | 0, k => k
  | f + 1, k => if k < n ∧ ty t k = 3 then nbF t n f (k + 1) else k
def nb (t : List Int) (n k : Nat) : Nat := nbF t n (n - k) k
theorem nbF_spec (t : List Int) (n : Nat) : ∀ f k, k + f = n → k ≤ nbF t n f k ∧ nbF t n f k ≤ n ∧ (∀ m, k ≤ m → m < nbF t n f k → ty t m = 3) ∧ (nbF t n f k < n → ty t (nbF t n f k) ≠ 3)
  | 0, k, h => ⟨Nat.le_refl _, by simp only [nbF]; omega, fun m h1 h2 => by simp only [nbF] at h2; omega, fun h1 => by simp only [nbF] at h1; omega⟩
  | f + 1, k, h => by
    simp only [nbF]
    split
    · rename_i h3
      obtain ⟨q1, q2, q3, q4⟩ := nbF_spec t n f (k + 1) (by omega)
      refine ⟨by omega, q2, fun m h1 h2 => ?_, q4⟩
      by_cases e : m = k
      · rw [e]; exact h3.2
      · exact q3 m (by omega) h2
    · rename_i h3
      exact ⟨Nat.le_refl _, by omega, fun m h1 h2 => by omega, fun h1 e => h3 ⟨h1, e⟩⟩
theorem nb_spec (t : List Int) (n k : Nat) (h : k ≤ n) : k ≤ nb t n k ∧ nb t n k ≤ n ∧ (∀ m, k ≤ m → m < nb t n k → ty t m = 3) ∧ (nb t n k < n → ty t (nb t n k) ≠ 3) := nbF_spec t n (n - k) k (by omega)

/-- Are the references of frame k in a set? -/
def kept (t : List Int) (n : Nat) (S : Nat → Bool) (k : Nat) : Bool :=
  if ty t k = 1 then true
  else if ty t k = 2 then decide (0 < lst t k) && S (lst t k - 1)
  else if ty t k = 3 then decide (0 < lst t k) && (decide (nb t n (k + 1) < n) && (S (lst t k - 1) && S (nb t n (k + 1))))
  else false

theorem arr_kept (t : List Int) (n k : Nat) (hk : k < n) : arr t n k = kept t n (arr t n) k := by
  unfold kept
  have hlast : 0 < lst t k → arr t n (lst t k - 1) = kn t k := fun h => by
    have h1 := lst_nb t k h
    have h2 := lst_le t k
    rw [arr_nb t _ h1 n (by omega), kn_lst t k, if_neg (by omega), show lst t k - 1 + 1 = lst t k by omega]
  have hzero : ¬ 0 < lst t k → kn t k = false := fun h => by rw [kn_lst t k, if_pos (by omega)]
  by_cases h3 : ty t k = 3
  · rw [if_neg (by omega), if_neg (by omega), if_pos h3]
    obtain ⟨q1, q2, q3, q4⟩ := nb_spec t n (k + 1) (by omega)
    by_cases hj : nb t n (k + 1) < n
    · rw [arr_b t k _ h3 (by omega) (q4 hj) (fun m h1 h2 => q3 m (by omega) h2) n hj, arr_nb t _ (q4 hj) n hj]
      have e : kn t (nb t n (k + 1)) = kn t k := kn_run t k _ (by omega) (fun m h1 h2 => by
        by_cases e : m = k
        · rw [e]; exact h3
        · exact q3 m (by omega) h2)
      rw [e]
      by_cases hl : 0 < lst t k
      · rw [hlast hl]; simp [hl, hj]
      · rw [hzero hl]; simp [hl]
    · rw [arr_b0 t k h3 n (fun m h1 h2 => q3 m (by omega) (by omega))]
      simp [hj]
  · rw [arr_nb t k h3 n hk]
    simp only [kn, if_neg h3]
    by_cases h1 : ty t k = 1
    · simp [h1]
    · by_cases h2 : ty t k = 2
      · rw [if_neg h1, if_pos h2]
        by_cases hl : 0 < lst t k
        · rw [hlast hl]; simp [h2, hl]
        · rw [hzero hl]; simp [h2, hl]
      · simp [h1, h2]

def Closed (t : List Int) (n : Nat) (S : Nat → Bool) : Prop := ∀ k, k < n → S k = true → kept t n S k = true
theorem arr_closed (t : List Int) (n : Nat) : Closed t n (arr t n) := fun k hk h => by rw [← arr_kept t n k hk]; exact h
/-- ████ It is the greatest closed set. ████ -/
theorem arr_great (t : List Int) (n : Nat) (S : Nat → Bool) (h : Closed t n S) : ∀ k, k < n → S k = true → arr t n k = true := by
  have nonb : ∀ k, k < n → ty t k ≠ 3 → S k = true → arr t n k = true := by
    intro k
    induction k using Nat.strongRecOn with
    | _ k ih =>
      intro hk h3 hS
      have := h k hk hS
      rw [arr_kept t n k hk]
      unfold kept at this ⊢
      split
      · rfl
      · rename_i h1
        rw [if_neg h1] at this
        split
        · rename_i h2
          rw [if_pos h2] at this
          simp only [Bool.and_eq_true, decide_eq_true_eq] at this ⊢
          have hle := lst_le t k
          exact ⟨this.1, ih (lst t k - 1) (by omega) (by omega) (lst_nb t k this.1) this.2⟩
        · rename_i h2
          rw [if_neg h2, if_neg h3] at this
          cases this
  intro k hk hS
  by_cases h3 : ty t k = 3
  · have := h k hk hS
    rw [arr_kept t n k hk]
    unfold kept at this ⊢
    rw [if_neg (by omega), if_neg (by omega), if_pos h3] at this ⊢
    simp only [Bool.and_eq_true, decide_eq_true_eq] at this ⊢
    obtain ⟨a1, a2, a3, a4⟩ := this
    have hle := lst_le t k
    obtain ⟨q1, q2, q3, q4⟩ := nb_spec t n (k + 1) (by omega)
    exact ⟨a1, a2, nonb _ (by omega) (lst_nb t k a1) a3, nonb _ a2 (q4 a2) a4⟩
  · exact nonb k hk h3 hS

/-! ### the closed form, of types 1, 2 and 3 -/
def fi (t : List Int) : Nat → Int
  | 0 => -1
  | i + 1 => if ty t i = 1 ∧ fi t i < 0 then (i : Int) else fi t i
def la (t : List Int) : Nat → Int
  | 0 => -1
  | i + 1 => if ty t i ≠ 3 ∧ 0 ≤ fi t (i + 1) then (i : Int) else la t i
theorem fi_lt (t : List Int) : ∀ i, -1 ≤ fi t i ∧ fi t i < i
  | 0 => by simp [fi]
  | i + 1 => by
    have := fi_lt t i
    simp only [fi]
    split <;> omega
theorem fi_ty (t : List Int) : ∀ i, 0 ≤ fi t i → ty t (fi t i).toNat = 1
  | 0, h => by simp [fi] at h
  | i + 1, h => by
    simp only [fi] at h ⊢
    split
    · rename_i h1; simpa using h1.1
    · rename_i h1; rw [if_neg h1] at h; exact fi_ty t i h
theorem fi_mono (t : List Int) (i : Nat) (h : 0 ≤ fi t i) : ∀ d, fi t (i + d) = fi t i
  | 0 => rfl
  | d + 1 => by
    have := fi_mono t i h d
    show fi t (i + d + 1) = _
    simp only [fi]
    rw [if_neg (by omega), this]
theorem fi_back (t : List Int) (n : Nat) (h : 0 ≤ fi t n) (m : Nat) (h1 : fi t n < m) (h2 : m ≤ n) : 0 ≤ fi t m := by
  induction n with
  | zero => have := fi_lt t 0; omega
  | succ n ih =>
    by_cases e : m = n + 1
    · rw [e]; exact h
    · simp only [fi] at h h1
      split at h
      · rename_i hq; rw [if_pos hq] at h1; omega
      · rename_i hq; rw [if_neg hq] at h1; exact ih h h1 (by omega)
theorem kn_fi (t : List Int) (n : Nat) (ht : ∀ k, k < n → ty t k = 1 ∨ ty t k = 2 ∨ ty t k = 3) : ∀ i, i ≤ n → kn t i = decide (0 ≤ fi t i)
  | 0, _ => by simp [kn, fi]
  | i + 1, h => by
    have ih := kn_fi t n ht i (by omega)
    rcases ht i (by omega) with h1 | h1 | h1
    · have e1 : kn t (i + 1) = true := by simp [kn, h1]
      have e2 : 0 ≤ fi t (i + 1) := by
        simp only [fi]
        split <;> omega
      rw [e1]; simp [e2]
    · have e1 : kn t (i + 1) = kn t i := by simp [kn, h1]
      have e2 : fi t (i + 1) = fi t i := by simp [fi, h1]
      rw [e1, e2, ih]
    · have e1 : kn t (i + 1) = kn t i := by simp [kn, h1]
      have e2 : fi t (i + 1) = fi t i := by simp [fi, h1]
      rw [e1, e2, ih]
theorem la_lt (t : List Int) : ∀ i, -1 ≤ la t i ∧ la t i < i
  | 0 => by simp [la]
  | i + 1 => by
    have := la_lt t i
    simp only [la]
    split <;> omega
theorem la_nb (t : List Int) : ∀ i, 0 ≤ la t i → ty t (la t i).toNat ≠ 3
  | 0, h => by simp [la] at h
  | i + 1, h => by
    simp only [la] at h ⊢
    split
    · rename_i h1; simpa using h1.1
    · rename_i h1; rw [if_neg h1] at h; exact la_nb t i h
theorem la_ge (t : List Int) (j : Nat) (hj : ty t j ≠ 3) (hf : 0 ≤ fi t (j + 1)) : ∀ i, j < i → (j : Int) ≤ la t i
  | 0, h => by omega
  | i + 1, h => by
    simp only [la]
    by_cases e : j = i
    · subst e; rw [if_pos ⟨hj, hf⟩]; omega
    · have := la_ge t j hj hf i (by omega)
      split <;> omega
/-- ████ Of consecutive frames those from the first I frame to the last other than B at or after it. ████ -/
theorem closed_form (t : List Int) (n : Nat) (ht : ∀ k, k < n → ty t k = 1 ∨ ty t k = 2 ∨ ty t k = 3) (k : Nat) (hk : k < n) : arr t n k = decide (0 ≤ fi t n ∧ fi t n ≤ k ∧ (k : Int) ≤ la t n) := by
  have hfl := fi_lt t n
  have hll := la_lt t n
  rw [Bool.eq_iff_iff, decide_eq_true_eq]
  by_cases h3 : ty t k = 3
  · obtain ⟨q1, q2, q3, q4⟩ := nb_spec t n (k + 1) (by omega)
    by_cases hj : nb t n (k + 1) < n
    · rw [arr_b t k _ h3 (by omega) (q4 hj) (fun m h1 h2 => q3 m (by omega) h2) n hj]
      have e : kn t (nb t n (k + 1)) = kn t k := kn_run t k _ (by omega) (fun m h1 h2 => by
        by_cases e : m = k
        · rw [e]; exact h3
        · exact q3 m (by omega) h2)
      rw [e, kn_fi t n ht k (by omega), kn_fi t n ht _ (by omega : nb t n (k + 1) + 1 ≤ n)]
      simp only [Bool.and_eq_true, decide_eq_true_eq]
      constructor
      · rintro ⟨h1, h2⟩
        have e1 := fi_mono t k h1 (n - k)
        rw [show k + (n - k) = n by omega] at e1
        have := fi_lt t k
        have := la_ge t _ (q4 hj) h2 n hj
        omega
      · rintro ⟨h1, h2, h4⟩
        have hne : fi t n ≠ k := fun e => by
          have := fi_ty t n h1
          rw [e] at this
          simp at this
          omega
        have h5 := fi_back t n h1 k (by omega) (by omega)
        exact ⟨h5, fi_back t n h1 _ (by omega) (by omega)⟩
    · rw [arr_b0 t k h3 n (fun m h1 h2 => q3 m (by omega) (by omega))]
      constructor
      · intro h; cases h
      · rintro ⟨h1, h2, h4⟩
        exfalso
        have h5 := la_nb t n (by omega)
        by_cases e : (la t n).toNat = k
        · exact h5 (e ▸ h3)
        · exact h5 (q3 _ (by omega) (by omega))
  · rw [arr_nb t k h3 n hk, kn_fi t n ht (k + 1) (by omega), decide_eq_true_eq]
    constructor
    · intro h1
      have e1 := fi_mono t (k + 1) h1 (n - (k + 1))
      rw [show k + 1 + (n - (k + 1)) = n by omega] at e1
      have := fi_lt t (k + 1)
      have := la_ge t k h3 h1 n hk
      omega
    · rintro ⟨h1, h2, h4⟩
      exact fi_back t n h1 (k + 1) (by omega) (by omega)

end Go.Proofs.Ytnjnikafhbholaa.Pl
