/-
  The plain law of chapter 3: units that are written are found again. No program in sight.
-/
import Derived.Test.YtdeehmdkpdgpfaaSn
namespace Go.Proofs.Ytdeehmdkpdgpfaa.Sc
set_option linter.all false
set_option linter.unusedVariables false
set_option linter.unusedSimpArgs false
open Pm Ty Go.RowKit

/-! ### the first start code -/
def hd (l : List UInt8) : Bool := match l with
  | a :: b :: c :: d :: _ => a == 0 && b == 0 && c == 1 && d != 0
  | _ => false
def fnd0 : List UInt8 → Nat
  | [] => 0
  | c :: r => if hd (c :: r) then 0 else 1 + fnd0 r
theorem hd_code (p : List UInt8) (i : Nat) (h : i + 4 ≤ p.length) : hd (p.drop i) = code p i := by
  have e : p.drop i = p.getD i 0 :: p.getD (i + 1) 0 :: p.getD (i + 2) 0 :: p.getD (i + 3) 0 :: p.drop (i + 4) := by
    rw [drop_cons' p i (by omega), drop_cons' p (i + 1) (by omega), drop_cons' p (i + 2) (by omega), drop_cons' p (i + 3) (by omega)]
  have h0 : ∀ x : UInt8, (x == 0) = ((x.toNat : Int) == 0) := fun x => by
    rw [Bool.eq_iff_iff]; simp only [beq_iff_eq]
    exact ⟨fun h => by subst h; rfl, fun h => UInt8.toNat_inj.1 (by simpa using h)⟩
  have h1 : ∀ x : UInt8, (x == 1) = ((x.toNat : Int) == 1) := fun x => by
    rw [Bool.eq_iff_iff]; simp only [beq_iff_eq]
    exact ⟨fun h => by subst h; rfl, fun h => UInt8.toNat_inj.1 (by simp; omega)⟩
  rw [e]
  simp only [hd, code, byt, bne, h0, h1]
theorem hd_len {l : List UInt8} (h : hd l = true) : 4 ≤ l.length := by
  match l with
  | [] => cases h
  | [_] => cases h
  | [_, _] => cases h
  | [_, _, _] => cases h
  | _ :: _ :: _ :: _ :: _ => simp
theorem nxt_fnd (p : List UInt8) (i : Nat) (h : i ≤ p.length) : nxt p i = i + fnd0 (p.drop i) := by
  induction hm : p.length - i using Nat.strongRecOn generalizing i with
  | _ n ih =>
    rcases Nat.lt_or_ge i p.length with h1 | h1
    · have ed := drop_cons' p i h1
      rw [nxt]
      by_cases h4 : i + 4 ≤ p.length
      · rw [if_pos h4]
        have hc := hd_code p i h4
        cases hx : code p i with
        | true =>
          rw [ed, fnd0, ← ed, hc, hx]
          simp
        | false =>
          rw [ed, fnd0, ← ed, hc, hx, ih (p.length - (i + 1)) (by omega) (i + 1) (by omega) rfl]
          simp; omega
      · rw [if_neg h4]
        have hs : ∀ l : List UInt8, l.length < 4 → fnd0 l = l.length := by
          intro l
          induction l with
          | nil => intro _; rfl
          | cons c r ihl =>
            intro hl
            have hf : hd (c :: r) = false := by
              cases hx : hd (c :: r) with
              | false => rfl
              | true => have := hd_len hx; omega
            rw [fnd0, hf, ihl (by simp at hl; omega)]
            simp; omega
        rw [hs _ (by simp; omega)]
        simp; omega
    · have : i = p.length := by omega
      subst this
      rw [nxt, if_neg (by omega), List.drop_length]
      rfl

def last0 (l : List UInt8) : Prop := l.getLast? = some 0
theorem fnd_noc : ∀ (l R : List UInt8) (z : Nat), noc z l → ¬ last0 l → fnd0 (l ++ R) = l.length + fnd0 R
  | [], R, z, _, _ => by simp
  | c :: r, R, z, hn, hl => by
    have hl' : ¬ last0 r := fun h => hl (by
      cases r with
      | nil => cases h
      | cons d r => simpa [last0] using h)
    have hf : hd (c :: (r ++ R)) = false := by
      cases hx : hd (c :: (r ++ R)) with
      | false => rfl
      | true =>
        match r, hn, hl, hx with
        | [], hn, hl, hx =>
          match R, hx with
          | b :: d :: e :: R, hx => simp [hd] at hx; rw [hx.1.1.1] at hl; exact absurd rfl hl
        | [b], hn, hl, hx =>
          match R, hx with
          | d :: e :: R, hx => simp [hd] at hx; rw [hx.1.1.2] at hl; exact absurd rfl hl
        | b :: d :: r, hn, hl, hx =>
          have h3 : c = 0 ∧ b = 0 ∧ d = 1 := by
            match r, R, hx with
            | e :: r, R, hx => simp [hd] at hx; exact ⟨hx.1.1.1, hx.1.1.2, hx.1.2⟩
            | [], e :: R, hx => simp [hd] at hx; exact ⟨hx.1.1.1, hx.1.1.2, hx.1.2⟩
          obtain ⟨rfl, rfl, rfl⟩ := h3
          have := hn.2.2.1
          simp [run0] at this
    rw [List.cons_append, fnd0, hf, fnd_noc r R _ hn.2 hl']
    simp; omega
theorem fnd_zs : ∀ (k : Nat) (R : List UInt8), (R = [] ∨ hd R = true) → fnd0 (zs k ++ R) = k
  | 0, R, h => by
    rcases h with rfl | h
    · rfl
    · cases R with
      | nil => rfl
      | cons c r => simp [zs, fnd0, h]
  | k + 1, R, h => by
    have e : zs (k + 1) ++ R = 0 :: (zs k ++ R) := by simp [zs, List.replicate_succ]
    have hf : hd (0 :: (zs k ++ R)) = false := by
      match k, R, h with
      | 0, [], _ => rfl
      | 0, c :: R, h =>
        match R, h with
        | b :: d :: e :: R, h =>
          simp [hd] at h
          simp [zs, hd, h.1.1.1, h.1.1.2]
      | 1, [], _ => rfl
      | 1, c :: R, h =>
        match R, h with
        | b :: d :: e :: R, h =>
          simp [hd] at h
          simp [zs, hd, h.1.1.1]
      | k + 2, R, h =>
        cases hx : hd (0 :: (zs (k + 2) ++ R)) with
        | false => rfl
        | true =>
          have e : zs (k + 2) ++ R = 0 :: 0 :: (zs k ++ R) := by simp [zs, List.replicate_succ]
          rw [e] at hx
          match hq : zs k ++ R, hx with
          | [], hx => cases hx
          | _ :: _, hx => simp [hd] at hx
    rw [e, fnd0, hf, fnd_zs k R h]
    simp; omega

/-! ### a unit -/
/-- A unit's bytes. -/
def cd (u : Int × List UInt8) : List UInt8 := (fmtR u.1 u.2).1
structure Wf (u : Int × List UInt8) (T : UInt8) (e : List UInt8) : Prop where
  eq : cd u = 0 :: 0 :: 1 :: T :: e
  t : u.1 = (T.toNat : Int)
  nz : T ≠ 0
  noc : noc 0 e
  last : ¬ last0 e
  un : unR e = (u.2, 0)
theorem wf_of {u : Int × List UInt8} (h : (fmtR u.1 u.2).2 = 0) : ∃ T e, Wf u T e := by
  obtain ⟨t, p⟩ := u
  simp only at h
  have hc : cd (t, p) = (fmtR t p).1 := rfl
  unfold fmtR at h
  by_cases h1 : t < 1 ∨ 255 < t
  · rw [if_pos h1] at h; simp at h
  · rw [if_neg h1] at h
    rcases escR_cases p with h2 | h2
    · rw [h2] at h; simp at h
    · have hend : ends0 p = false := by
        cases hx : ends0 p with
        | false => rfl
        | true => rw [escR, if_pos hx] at h2; simp at h2
      have hT : (UInt8.ofNat t.toNat).toNat = t.toNat := by simp; omega
      refine ⟨UInt8.ofNat t.toNat, escL 0 p, ?_, ?_, ?_, noc_escL p 0 (by omega), ?_, ?_⟩
      · rw [hc]; unfold fmtR; rw [if_neg h1, h2, if_pos rfl, esc_eq]; rfl
      · simp only; omega
      · intro e; rw [e] at hT; simp at hT; omega
      · intro hl
        unfold last0 at hl
        rw [escL_last, ] at hl
        rw [ends0_last, hl] at hend
        simp at hend
      · rw [← esc_eq]; exact une_nil_escR h2

/-- Units, and zeros behind each. -/
def W : List ((Int × List UInt8) × Nat) → List UInt8
  | [] => []
  | (u, z) :: r => cd u ++ zs z ++ W r
def fnds : Nat → List ((Int × List UInt8) × Nat) → List Fnd
  | _, [] => []
  | a, (u, z) :: r => ⟨u.1, u.2, a, a + (cd u).length, a + (cd u).length + z⟩ :: fnds (a + (cd u).length + z) r
def Oks (l : List ((Int × List UInt8) × Nat)) : Prop := ∀ x ∈ l, (fmtR x.1.1 x.1.2).2 = 0
theorem hd_W {l : List ((Int × List UInt8) × Nat)} {R : List UInt8} (h : Oks l) (hR : R = [] ∨ hd R = true) : W l ++ R = [] ∨ hd (W l ++ R) = true := by
  cases l with
  | nil => exact hR
  | cons x r =>
    obtain ⟨u, z⟩ := x
    obtain ⟨T, e, hw⟩ := wf_of (h (u, z) (by simp))
    right
    simp only [W, hw.eq]
    have := hw.nz
    simp [hd, this]

theorem trm_zs (b A : List UInt8) (lo : Nat) (B : List UInt8) : ∀ (z : Nat), b = A ++ (zs z ++ B) → lo ≤ A.length → (lo < A.length → byt b (A.length - 1) ≠ 0) → trm b lo (A.length + z) = A.length := by
  intro z hb hlo hlast
  have key : ∀ j, j ≤ z → trm b lo (A.length + j) = A.length := by
    intro j
    induction j with
    | zero =>
      intro _
      exact trm_stop b lo A.length (fun hh => hlast hh.1 hh.2)
    | succ j ih =>
      intro hj
      have hz : byt b (A.length + j) = 0 := by
        unfold byt
        rw [hb]
        simp only [List.getD]
        rw [List.getElem?_append_right (by omega), List.getElem?_append_left (by simp [zs]; omega)]
        rw [show A.length + j - A.length = j by omega]
        simp [zs, show j < z by omega]
      rw [trm_step b lo (A.length + (j + 1)) ⟨by omega, by rw [show A.length + (j + 1) - 1 = A.length + j by omega]; exact hz⟩]
      rw [show A.length + (j + 1) - 1 = A.length + j by omega]
      exact ih (by omega)
  exact key z (Nat.le_refl _)

theorem step_found (A R : List UInt8) (u : Int × List UInt8) (z n : Nat) (us : List Fnd) (ds : List (Nat × Nat)) (h : (fmtR u.1 u.2).2 = 0) (hR : R = [] ∨ hd R = true) :
    splF (A ++ (cd u ++ zs z ++ R)) (n + 1) A.length us ds = splF (A ++ (cd u ++ zs z ++ R)) n (A.length + (cd u).length + z) (us ++ [⟨u.1, u.2, A.length, A.length + (cd u).length, A.length + (cd u).length + z⟩]) ds := by
  obtain ⟨T, e, hw⟩ := wf_of h
  generalize hb : A ++ (cd u ++ zs z ++ R) = b
  have hcl : (cd u).length = 4 + e.length := by rw [hw.eq]; simp; omega
  have hb1 : b = (A ++ [0, 0, 1, T]) ++ (e ++ (zs z ++ R)) := by rw [← hb, hw.eq]; simp
  have hbl : b.length = A.length + 4 + e.length + z + R.length := by rw [hb1]; simp [zs]; omega
  have hdr : b.drop (A.length + 4) = e ++ (zs z ++ R) := by
    rw [hb1, List.drop_append_of_le_length (by simp), List.drop_of_length_le (by simp)]
    rfl
  have hnx : nxt b (A.length + 4) = A.length + 4 + e.length + z := by
    rw [nxt_fnd b _ (by omega), hdr, fnd_noc e _ 0 hw.noc hw.last, fnd_zs z R hR]
    omega
  have hb2 : b = (A ++ [0, 0, 1, T] ++ e) ++ (zs z ++ R) := by rw [hb1]; simp
  have hAl : (A ++ [0, 0, 1, T] ++ e).length = A.length + 4 + e.length := by simp; omega
  have htr : trm b (A.length + 4) (A.length + 4 + e.length + z) = A.length + 4 + e.length := by
    have := trm_zs b (A ++ [0, 0, 1, T] ++ e) (A.length + 4) R z hb2 (by rw [hAl]; omega) (fun hlt h0 => ?_)
    · rwa [hAl] at this
    · rw [hAl] at hlt h0
      refine hw.last ?_
      have he : e ≠ [] := fun e' => by subst e'; simp at hlt
      unfold last0
      rw [List.getLast?_eq_getElem?]
      unfold byt at h0
      rw [hb1] at h0
      simp only [List.getD] at h0
      rw [List.getElem?_append_right (by simp; omega), List.getElem?_append_left (by simp; omega)] at h0
      rw [show A.length + 4 + e.length - 1 - (A ++ [0, 0, 1, T]).length = e.length - 1 by simp; omega] at h0
      have hlt2 : e.length - 1 < e.length := by have := List.length_pos_iff.2 he; omega
      rw [List.getElem?_eq_getElem hlt2] at h0 ⊢
      simp only [Option.getD_some] at h0
      congr 1
      exact UInt8.toNat_inj.1 (by simpa using h0)
  have hpart : part b (A.length + 4) (A.length + 4 + e.length) = e := by
    unfold part
    rw [hdr, show A.length + 4 + e.length - (A.length + 4) = e.length by omega, List.take_left']
    rfl
  have hby : byt b (A.length + 3) = u.1 := by
    unfold byt
    rw [hb1]
    simp only [List.getD]
    rw [List.getElem?_append_left (by simp), List.getElem?_append_right (by omega)]
    rw [show A.length + 3 - A.length = 3 by omega]
    simp [hw.t]
  rw [splF, if_pos (by omega), hnx, htr, hpart, hw.un, if_pos rfl, hby, hcl]
  simp only [Nat.add_assoc]
theorem W_append (l r : List ((Int × List UInt8) × Nat)) : W (l ++ r) = W l ++ W r := by
  induction l with
  | nil => rfl
  | cons x l ih => obtain ⟨u, z⟩ := x; simp [W, ih]

theorem found : ∀ (l : List ((Int × List UInt8) × Nat)) (A R : List UInt8) (n : Nat) (us : List Fnd) (ds : List (Nat × Nat)), Oks l → (R = [] ∨ hd R = true) →
    splF (A ++ (W l ++ R)) (l.length + n) A.length us ds = splF (A ++ (W l ++ R)) n (A.length + (W l).length) (us ++ fnds A.length l) ds
  | [], A, R, n, us, ds, _, _ => by simp [W, fnds]
  | (u, z) :: r, A, R, n, us, ds, h, hR => by
    have hr : Oks r := fun x hx => h x (by simp [hx])
    have h1 := step_found A (W r ++ R) u z (r.length + n) us ds (h (u, z) (by simp)) (hd_W hr hR)
    have e : A ++ (cd u ++ zs z ++ (W r ++ R)) = (A ++ (cd u ++ zs z)) ++ (W r ++ R) := by simp
    have hl : (A ++ (cd u ++ zs z)).length = A.length + (cd u).length + z := by simp [zs]; omega
    have h2 := found r (A ++ (cd u ++ zs z)) R n (us ++ [⟨u.1, u.2, A.length, A.length + (cd u).length, A.length + (cd u).length + z⟩]) ds hr hR
    rw [hl, ← e] at h2
    have e2 : A ++ (W ((u, z) :: r) ++ R) = A ++ (cd u ++ zs z ++ (W r ++ R)) := by simp [W]
    rw [e2, show ((u, z) :: r).length + n = r.length + n + 1 by simp; omega, h1, h2]
    congr 1
    · simp [W, zs]; omega
    · simp [fnds]

theorem splF_end (b : List UInt8) (n : Nat) (us : List Fnd) (ds : List (Nat × Nat)) : splF b n b.length us ds = (us, ds) := by
  cases n with
  | zero => rfl
  | succ n => rw [splF, if_neg (by omega)]

/-! ### any way leads to a start code -/
theorem nxt_to (b : List UInt8) (i a : Nat) (hi : i ≤ a) (ha : a + 4 ≤ b.length) (hc : code b a = true) : nxt b i ≤ a := by
  induction hm : a - i using Nat.strongRecOn generalizing i with
  | _ n ih =>
    rw [nxt, if_pos (by omega)]
    split
    · exact hi
    · rename_i hx
      have : i ≠ a := fun e => hx (by rw [e]; exact hc)
      exact ih (a - (i + 1)) (by omega) (i + 1) (by omega) rfl
theorem nxt_code (b : List UInt8) (i : Nat) (h : nxt b i < b.length) : code b (nxt b i) = true := by
  induction hm : b.length - i using Nat.strongRecOn generalizing i with
  | _ n ih =>
    rw [nxt] at h ⊢
    split
    · rename_i h4
      rw [if_pos h4] at h
      split
      · rename_i hc; exact hc
      · rename_i hc
        rw [if_neg hc] at h
        exact ih (b.length - (i + 1)) (by omega) (i + 1) h rfl
    · rename_i h4
      rw [if_neg h4] at h
      omega
theorem no_straddle (b : List UInt8) (i a : Nat) (h1 : code b i = true) (h2 : code b a = true) (h : i < a) : i + 4 ≤ a := by
  simp only [code, Bool.and_eq_true, beq_iff_eq, bne_iff_ne, ne_eq] at h1 h2
  rcases Nat.lt_or_ge a (i + 4) with h3 | h3
  · obtain ⟨⟨⟨a0, a1⟩, a2⟩, a3⟩ := h1
    obtain ⟨⟨⟨b0, b1⟩, b2⟩, b3⟩ := h2
    have : a = i + 1 ∨ a = i + 2 ∨ a = i + 3 := by omega
    rcases this with rfl | rfl | rfl
    · rw [show i + 1 + 1 = i + 2 by omega] at b1; omega
    · omega
    · omega
  · exact h3
theorem leads (b : List UInt8) (a : Nat) (ha : a + 4 ≤ b.length) (hc : code b a = true) : ∀ (n i : Nat) (us : List Fnd) (ds : List (Nat × Nat)), i ≤ a → code b i = true → a - i ≤ n →
    ∃ m us' ds', n - (a - i) ≤ m ∧ splF b n i us ds = splF b m a (us ++ us') ds' := by
  intro n
  induction n with
  | zero => intro i us ds hi _ hn; exact ⟨0, [], ds, by omega, by rw [show i = a by omega]; simp⟩
  | succ n ih =>
    intro i us ds hi hci hn
    rcases Nat.eq_or_lt_of_le hi with e | hlt
    · subst e; exact ⟨n + 1, [], ds, by omega, by simp⟩
    · have h4 := no_straddle b i a hci hc hlt
      have h5 := nxt_to b (i + 4) a h4 ha hc
      have h6 := nxt_ge b (i + 4) (by omega)
      have h7 := nxt_code b (i + 4) (by omega)
      rw [splF, if_pos (by omega)]
      split
      · obtain ⟨m, us', ds', hm, he⟩ := ih (nxt b (i + 4)) (us ++ [⟨byt b (i + 3), (unR (part b (i + 4) (trm b (i + 4) (nxt b (i + 4))))).1, i, trm b (i + 4) (nxt b (i + 4)), nxt b (i + 4)⟩]) ds h5 h7 (by omega)
        exact ⟨m, _, ds', by omega, by rw [he, List.append_assoc]⟩
      · obtain ⟨m, us', ds', hm, he⟩ := ih (nxt b (i + 4)) us (ds ++ [(i, trm b (i + 4) (nxt b (i + 4)))]) h5 h7 (by omega)
        exact ⟨m, us', ds', by omega, he⟩

/-! ### what 'joined' writes -/
def zipN (pads : List Int) : Nat → List (Int × List UInt8) → List ((Int × List UInt8) × Nat)
  | _, [] => []
  | i, u :: r => (u, if r = [] then 0 else padN pads (i + 1)) :: zipN pads (i + 1) r
def JB (pads : List Int) : Nat → List (Int × List UInt8) → List UInt8
  | _, [] => []
  | i, u :: r => zs (padN pads i) ++ cd u ++ JB pads (i + 1) r
def JF (pads : List Int) : Nat → Nat → List (Int × List UInt8) → List Fnd
  | _, _, [] => []
  | i, a, u :: r => ⟨u.1, u.2, a + padN pads i, a + padN pads i + (cd u).length, 0⟩ :: JF pads (i + 1) (a + padN pads i + (cd u).length) r
theorem JB_snoc (pads : List Int) (u : Int × List UInt8) : ∀ (l : List (Int × List UInt8)) (i : Nat), JB pads i (l ++ [u]) = JB pads i l ++ zs (padN pads (i + l.length)) ++ cd u
  | [], i => by simp [JB]
  | x :: l, i => by simp [JB, JB_snoc pads u l (i + 1), show i + 1 + l.length = i + (l.length + 1) by omega]
theorem JF_snoc (pads : List Int) (u : Int × List UInt8) : ∀ (l : List (Int × List UInt8)) (i a : Nat), JF pads i a (l ++ [u]) = JF pads i a l ++ [⟨u.1, u.2, a + (JB pads i l).length + padN pads (i + l.length), a + (JB pads i l).length + padN pads (i + l.length) + (cd u).length, 0⟩]
  | [], i, a => by simp [JF, JB]
  | x :: l, i, a => by
    have e : a + padN pads i + (cd x).length + (JB pads (i + 1) l).length = a + (JB pads i (x :: l)).length := by simp [JB, zs]; omega
    simp only [List.cons_append, JF, JF_snoc pads u l (i + 1), e, show i + 1 + l.length = i + (x :: l).length by simp; omega]
theorem jS_eq (pads : List Int) (us : List (Int × List UInt8)) : ∀ i, i ≤ us.length → jS pads us i = (JB pads 0 (us.take i), JF pads 0 0 (us.take i))
  | 0, _ => by simp [jS, JB, JF]
  | i + 1, h => by
    have e : us.take (i + 1) = us.take i ++ [un us i] := by
      rw [List.take_succ_eq_append_getElem (by omega)]; simp [un, show i < us.length by omega]
    have hl : (us.take i).length = i := by simp; omega
    rw [jS, jS_eq pads us i (by omega), e, JB_snoc, JF_snoc, hl]
    simp [cd, zs]
theorem JB_W (pads : List Int) : ∀ (l : List (Int × List UInt8)) (i : Nat), l ≠ [] → JB pads i l = zs (padN pads i) ++ W (zipN pads i l)
  | [], i, h => absurd rfl h
  | [u], i, _ => by simp [JB, W, zipN, zs]
  | u :: v :: r, i, _ => by
    rw [JB, JB_W pads (v :: r) (i + 1) (by simp)]
    conv => rhs; rw [zipN, W, if_neg (by simp)]
    simp
theorem fix_JF (pads : List Int) : ∀ (l : List (Int × List UInt8)) (i a N : Nat), N = a + (JB pads i l).length → fixN N (JF pads i a l) = fnds (a + padN pads i) (zipN pads i l)
  | [], i, a, N, _ => rfl
  | [u], i, a, N, h => by
    simp [JB, zs] at h
    simp [JF, fixN, zipN, fnds, h]; omega
  | u :: v :: r, i, a, N, h => by
    have e := fix_JF pads (v :: r) (i + 1) (a + padN pads i + (cd u).length) N (by rw [h]; simp [JB, zs]; omega)
    conv => lhs; rw [JF]
    simp only [fixN, e]
    conv => rhs; rw [zipN, fnds, if_neg (by simp)]
    simp [JF]
theorem zip_oks {us : List (Int × List UInt8)} (pads : List Int) : ∀ (i : Nat), (∀ u ∈ us, (fmtR u.1 u.2).2 = 0) → Oks (zipN pads i us) := by
  induction us with
  | nil => intro i _ x hx; cases hx
  | cons u r ih =>
    intro i h x hx
    simp only [zipN, List.mem_cons] at hx
    rcases hx with rfl | hx
    · exact h u (by simp)
    · exact ih (i + 1) (fun v hv => h v (by simp [hv])) x hx
theorem zip_len (pads : List Int) : ∀ (us : List (Int × List UInt8)) (i : Nat), (zipN pads i us).length = us.length
  | [], i => rfl
  | u :: r, i => by simp [zipN, zip_len pads r (i + 1)]
theorem formed_oks {us : List (Int × List UInt8)} (h : formedB us = true) : ∀ u ∈ us, (fmtR u.1 u.2).2 = 0 := fun u hu => by
  simp only [formedB, Bool.and_eq_true, decide_eq_true_eq, List.all_eq_true] at h
  have := h.2 u hu
  simp [unitOk] at this
  exact this.2
theorem joined_b (pads : List Int) (us : List (Int × List UInt8)) : jB pads us = JB pads 0 us := by
  rw [jB, jS_eq pads us us.length (Nat.le_refl _), List.take_length]
theorem joined_f (pads : List Int) (us : List (Int × List UInt8)) : jF pads us = fnds (padN pads 0) (zipN pads 0 us) := by
  rw [jF, joined_b, jS_eq pads us us.length (Nat.le_refl _), List.take_length, fix_JF pads us 0 0 _ (by simp), Nat.zero_add]
theorem cd_pos {u : Int × List UInt8} (h : (fmtR u.1 u.2).2 = 0) : 4 ≤ (cd u).length := by
  obtain ⟨T, e, hw⟩ := wf_of h
  rw [hw.eq]; simp
theorem W_len {l : List ((Int × List UInt8) × Nat)} (h : Oks l) : l.length ≤ (W l).length := by
  induction l with
  | nil => simp
  | cons x r ih =>
    obtain ⟨u, z⟩ := x
    have h1 : 4 ≤ (cd u).length := cd_pos (h (u, z) (by simp))
    have h2 := ih fun x hx => h x (by simp [hx])
    simp [W] at h2 ⊢
    omega

/-- ████ Back ████ -/
theorem spl_joined (pads : List Int) (us : List (Int × List UInt8)) (hf : formedB us = true) : spl (jB pads us) = (jF pads us, []) := by
  have hok := zip_oks pads 0 (formed_oks hf)
  rw [joined_b, joined_f]
  by_cases hn : us = []
  · subst hn; show spl [] = ([], []); simp [spl, nxt, trm, splF]
  · rw [JB_W pads us 0 hn]
    generalize hz : padN pads 0 = p
    have hl := zip_len pads us 0
    generalize zipN pads 0 us = l at *
    have hlne : l ≠ [] := fun e => hn (List.eq_nil_of_length_eq_zero (by rw [← hl, e]; rfl))
    have hhd := hd_W (R := []) hok (.inl rfl)
    rw [List.append_nil] at hhd
    have hx : nxt (zs p ++ W l) 0 = p := by
      rw [nxt_fnd _ _ (Nat.zero_le _), List.drop_zero, fnd_zs p _ hhd, Nat.zero_add]
    have ht : trm (zs p ++ W l) 0 p = 0 := by
      have := trm_zs (zs p ++ W l) [] 0 (W l) p (by simp) (Nat.le_refl _) (fun h => by simp at h)
      simpa using this
    unfold spl
    rw [hx, ht, if_neg (by omega)]
    have hlen : (zs p ++ W l).length = p + (W l).length := by simp [zs]
    have h1 := W_len hok
    obtain ⟨m, hm⟩ : ∃ m, (zs p ++ W l).length + 1 = l.length + m := ⟨p + (W l).length + 1 - l.length, by omega⟩
    have h2 := found l (zs p) [] m [] [] hok (.inl rfl)
    have hzl : (zs p).length = p := by simp [zs]
    rw [List.append_nil, hzl] at h2
    rw [hm, h2, ← hlen, splF_end]
    simp

/-! ### after any bytes; after damage -/
theorem padN_nil (i : Nat) : padN [] i = 0 := by simp [padN]
theorem JB_nil (us : List (Int × List UInt8)) : ∀ i, JB [] i us = W (zipN [] i us) := by
  induction us with
  | nil => intro i; rfl
  | cons u r ih => intro i; simp [JB, zipN, W, padN_nil, zs, ih]
def shift (c : Nat) (x : Fnd) : Fnd := ⟨x.t, x.p, x.fr + c, x.to + c, x.nx + c⟩
theorem fnds_shift (c : Nat) : ∀ (l : List ((Int × List UInt8) × Nat)) (a : Nat), fnds (a + c) l = (fnds a l).map (shift c)
  | [], a => rfl
  | (u, z) :: r, a => by
    have := fnds_shift c r (a + (cd u).length + z)
    simp only [fnds, List.map_cons, shift]
    rw [show a + c + (cd u).length + z = a + (cd u).length + z + c by omega, this]
    congr 2; omega
theorem fnds_len (l : List ((Int × List UInt8) × Nat)) : ∀ a, (fnds a l).length = l.length := by
  induction l with
  | nil => intro a; rfl
  | cons x r ih => intro a; obtain ⟨u, z⟩ := x; simp [fnds, ih]
theorem code_at (A B : List UInt8) (h : hd B = true) : code (A ++ B) A.length = true ∧ A.length + 4 ≤ (A ++ B).length := by
  have hl := hd_len h
  have h4 : A.length + 4 ≤ (A ++ B).length := by simp; omega
  exact ⟨by rw [← hd_code _ _ h4, List.drop_left']; exact h; rfl, h4⟩
theorem spl_resync (x : List UInt8) (l : List ((Int × List UInt8) × Nat)) (h : Oks l) (hn : l ≠ []) : ∃ U D, spl (x ++ W l) = (U ++ fnds x.length l, D) := by
  have hhd : hd (W l) = true := by
    have := hd_W (R := []) h (.inl rfl)
    rw [List.append_nil] at this
    rcases this with h1 | h1
    · cases l with
      | nil => exact absurd rfl hn
      | cons y r =>
        obtain ⟨u, z⟩ := y
        have := cd_pos (h (u, z) (by simp))
        simp [W] at h1
        simp [h1.1] at this
    · exact h1
  obtain ⟨hc, h4⟩ := code_at x (W l) hhd
  have h1 := nxt_to _ 0 x.length (Nat.zero_le _) h4 hc
  have h2 := nxt_code (x ++ W l) 0 (by omega)
  unfold spl
  generalize (if 0 < trm (x ++ W l) 0 (nxt (x ++ W l) 0) then [(0, nxt (x ++ W l) 0)] else []) = ds
  obtain ⟨m, us', ds', hm, he⟩ := leads (x ++ W l) x.length h4 hc ((x ++ W l).length + 1) (nxt (x ++ W l) 0) [] ds h1 h2 (by omega)
  have h5 := W_len h
  have hbl : (x ++ W l).length = x.length + (W l).length := by simp
  obtain ⟨m', hm'⟩ : ∃ m', m = l.length + m' := ⟨m - l.length, by omega⟩
  have h6 := found l x [] m' ([] ++ us') ds' h (.inl rfl)
  rw [List.append_nil] at h6
  rw [he, hm', h6, ← hbl, splF_end]
  exact ⟨us', ds', by simp⟩
theorem splF_more (b : List UInt8) : ∀ (n i : Nat) (us : List Fnd) (ds : List (Nat × Nat)), ∃ us' ds', splF b n i us ds = (us ++ us', ds')
  | 0, i, us, ds => ⟨[], ds, by simp [splF]⟩
  | n + 1, i, us, ds => by
    rw [splF]
    split
    · split
      · obtain ⟨us', ds', he⟩ := splF_more b n (nxt b (i + 4)) (us ++ [⟨byt b (i + 3), (unR (part b (i + 4) (trm b (i + 4) (nxt b (i + 4))))).1, i, trm b (i + 4) (nxt b (i + 4)), nxt b (i + 4)⟩]) ds
        exact ⟨_, ds', by rw [he, List.append_assoc]⟩
      · exact splF_more b n _ us _
    · exact ⟨[], ds, by simp⟩
theorem spl_damage (l1 l2 : List ((Int × List UInt8) × Nat)) (c : List UInt8) (h1 : Oks l1) (h2 : Oks l2) (hc : hd c = true) : ∃ U D, spl (W l1 ++ (c ++ W l2)) = (fnds 0 l1 ++ (U ++ fnds ((W l1).length + c.length) l2), D) := by
  have hcx : hd (c ++ W l2) = true := by
    match c, hc with
    | a :: b :: d :: e :: r, hc => exact hc
  have hbx : hd (W l1 ++ (c ++ W l2)) = true := by
    rcases hd_W h1 (.inr hcx) with h | h
    · have := hd_len hc
      simp at h
      simp [h.2.1] at this
    · exact h
  generalize hb : W l1 ++ (c ++ W l2) = b at *
  have hx : nxt b 0 = 0 := by
    rw [nxt_fnd _ _ (Nat.zero_le _), List.drop_zero]
    cases b with
    | nil => rfl
    | cons y r => simp [fnd0, hbx]
  have hbl : b.length = (W l1).length + c.length + (W l2).length := by rw [← hb]; simp; omega
  have hw1 := W_len h1
  have hw2 := W_len h2
  unfold spl
  rw [hx, show trm b 0 0 = 0 from rfl, if_neg (by omega)]
  obtain ⟨m, hm⟩ : ∃ m, b.length + 1 = l1.length + m := ⟨b.length + 1 - l1.length, by omega⟩
  have h3 := found l1 [] (c ++ W l2) m [] [] h1 (.inr hcx)
  rw [List.nil_append, hb, List.length_nil, Nat.zero_add, List.nil_append] at h3
  rw [hm, h3]
  cases l2 with
  | nil =>
    obtain ⟨us', ds', he⟩ := splF_more b m (W l1).length (fnds 0 l1) []
    exact ⟨us', ds', by rw [he]; simp [fnds]⟩
  | cons y r =>
    have hhd : hd (W (y :: r)) = true := by
      have := hd_W (R := []) h2 (.inl rfl)
      rw [List.append_nil] at this
      rcases this with h | h
      · rw [h] at hw2; simp at hw2
      · exact h
    obtain ⟨q1, q2⟩ := code_at (W l1) (c ++ W (y :: r)) hcx
    obtain ⟨r1, r2⟩ := code_at (W l1 ++ c) (W (y :: r)) hhd
    rw [List.append_assoc, hb, List.length_append] at r1 r2
    rw [hb] at q1 q2
    obtain ⟨m2, us', ds', hm2, he⟩ := leads b ((W l1).length + c.length) r2 r1 m (W l1).length (fnds 0 l1) [] (by omega) q1 (by omega)
    obtain ⟨m3, hm3⟩ : ∃ m3, m2 = (y :: r).length + m3 := ⟨m2 - (y :: r).length, by omega⟩
    have h6 := found (y :: r) (W l1 ++ c) [] m3 (fnds 0 l1 ++ us') ds' h2 (.inl rfl)
    rw [List.append_nil, List.append_assoc, hb, List.length_append] at h6
    rw [he, hm3, h6, ← hbl, splF_end]
    exact ⟨us', ds', by simp⟩

/-! ### damage, as the statement speaks of it -/
theorem zip_nil (us : List (Int × List UInt8)) : ∀ i, zipN [] i us = us.map fun u => (u, 0) := by
  induction us with
  | nil => intro i; rfl
  | cons u r ih => intro i; simp [zipN, padN_nil, ih]
theorem fnds_append (l r : List ((Int × List UInt8) × Nat)) : ∀ a, fnds a (l ++ r) = fnds a l ++ fnds (a + (W l).length) r := by
  induction l with
  | nil => intro a; simp [fnds, W]
  | cons x l ih =>
    intro a
    obtain ⟨u, z⟩ := x
    simp only [List.cons_append, fnds, ih, W]
    simp [zs]
    congr 1; omega
theorem jF_nil (us : List (Int × List UInt8)) : jF [] us = fnds 0 (us.map fun u => (u, 0)) := by rw [joined_f, padN_nil, zip_nil]
theorem jB_nil (us : List (Int × List UInt8)) : jB [] us = W (us.map fun u => (u, 0)) := by rw [joined_b, JB_nil, zip_nil]
theorem map_oks {us : List (Int × List UInt8)} (h : ∀ u ∈ us, (fmtR u.1 u.2).2 = 0) : Oks (us.map fun u => (u, 0)) := fun x hx => by
  obtain ⟨u, hu, rfl⟩ := List.mem_map.1 hx
  exact h u hu
theorem W1 (u : Int × List UInt8) (r : List ((Int × List UInt8) × Nat)) : W ((u, 0) :: r) = cd u ++ W r := by simp [W, zs]
theorem dmg (us : List (Int × List UInt8)) (hok : ∀ u ∈ us, (fmtR u.1 u.2).2 = 0) (k : Nat) (hk : k < us.length) (r : Nat) (v : UInt8) :
    ∃ a c : Nat, (fn (jF [] us) k).fr = a ∧ (fn (jF [] us) k).to = a + c ∧ a + c ≤ (jB [] us).length ∧ 4 ≤ c ∧ (4 + r < c → ∀ i, i < us.length → i ≠ k → fn (jF [] us) i ∈ (spl ((jB [] us).set (a + 4 + r) v)).1) := by
  obtain ⟨l1, u, l2, rfl, hl1⟩ : ∃ l1 u l2, us = l1 ++ u :: l2 ∧ l1.length = k := ⟨us.take k, us[k], us.drop (k + 1), by rw [← List.drop_eq_getElem_cons hk, List.take_append_drop], by simp; omega⟩
  have hu := hok u (by simp)
  have h1 : Oks (l1.map fun u => (u, 0)) := map_oks fun x hx => hok x (by simp [hx])
  have h2 : Oks (l2.map fun u => (u, 0)) := map_oks fun x hx => hok x (by simp [hx])
  have hlen := cd_pos hu
  rw [jF_nil, jB_nil, List.map_append, List.map_cons, fnds_append, W_append, W1, Nat.zero_add]
  simp only [fnds, Nat.add_zero]
  generalize hz1 : (l1.map fun u => (u, (0 : Nat))) = z1 at *
  generalize hz2 : (l2.map fun u => (u, (0 : Nat))) = z2 at *
  have e1 : (fnds 0 z1).length = k := by rw [fnds_len, ← hz1, List.length_map, hl1]
  have ek : fn (fnds 0 z1 ++ ⟨u.1, u.2, (W z1).length, (W z1).length + (cd u).length, (W z1).length + (cd u).length⟩ :: fnds ((W z1).length + (cd u).length) z2) k = ⟨u.1, u.2, (W z1).length, (W z1).length + (cd u).length, (W z1).length + (cd u).length⟩ := by
    rw [fn_left e1]; rfl
  refine ⟨(W z1).length, (cd u).length, by rw [ek], by rw [ek], by simp, hlen, fun hr i hi hne => ?_⟩
  obtain ⟨T, e, hw⟩ := wf_of hu
  have hset : (W z1 ++ (cd u ++ W z2)).set ((W z1).length + 4 + r) v = W z1 ++ ((cd u).set (4 + r) v ++ W z2) := by
    rw [List.set_append_right _ _ (by omega), show (W z1).length + 4 + r - (W z1).length = 4 + r by omega, List.set_append_left _ _ (by omega)]
  have hhd : hd ((cd u).set (4 + r) v) = true := by
    rw [hw.eq, show 4 + r = r + 1 + 1 + 1 + 1 by omega]
    simp only [List.set_cons_succ]
    have := hw.nz
    simp [hd, this]
  obtain ⟨U, D, he⟩ := spl_damage z1 z2 _ h1 h2 hhd
  rw [List.length_set] at he
  rw [hset, he]
  simp only [List.mem_append]
  rcases Nat.lt_or_gt_of_ne hne with hlt | hgt
  · left
    have : fn (fnds 0 z1 ++ ⟨u.1, u.2, (W z1).length, (W z1).length + (cd u).length, (W z1).length + (cd u).length⟩ :: fnds ((W z1).length + (cd u).length) z2) i = (fnds 0 z1)[i]'(by omega) := by
      simp only [fn, List.getD]
      rw [List.getElem?_append_left (by omega), List.getElem?_eq_getElem (by omega)]
      rfl
    rw [this]
    exact List.getElem_mem _
  · right; right
    obtain ⟨j, rfl⟩ : ∃ j, i = k + (j + 1) := ⟨i - k - 1, by omega⟩
    have hl2 : j < (fnds ((W z1).length + (cd u).length) z2).length := by
      rw [fnds_len, ← hz2, List.length_map]
      simp at hi
      omega
    have : fn (fnds 0 z1 ++ ⟨u.1, u.2, (W z1).length, (W z1).length + (cd u).length, (W z1).length + (cd u).length⟩ :: fnds ((W z1).length + (cd u).length) z2) (k + (j + 1)) = (fnds ((W z1).length + (cd u).length) z2)[j] := by
      simp only [fn, List.getD]
      rw [List.getElem?_append_right (by omega), e1, Nat.add_sub_cancel_left, List.getElem?_cons_succ, List.getElem?_eq_getElem hl2]
      rfl
    rw [this]
    exact List.getElem_mem _

end Go.Proofs.Ytdeehmdkpdgpfaa.Sc
