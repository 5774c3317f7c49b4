/-
  Parts of the proof. No condition.
-/
import Derived.Test.YtbhdollgohgkgaaDoorB12
namespace Go.Proofs.YtbhdollgohgkgaaDoor.S3
set_option linter.all false
set_option linter.unusedVariables false
set_option linter.unusedSimpArgs false
open Pm Ty Sc Go.RowKit
set_option maxRecDepth 100000

def zrs (n : Nat) : List UInt8 := List.replicate n 0
/-! ### the first start code -/
def hd4 (l : List UInt8) : Bool := match l with
  | a :: b :: c :: d :: _ => a == 0 && b == 0 && c == 1 && d != 0
  | _ => false
def fnd0 : List UInt8 → Nat
  | [] => 0
  | c :: r => if hd4 (c :: r) then 0 else 1 + fnd0 r
theorem hd4_code (p : List UInt8) (i : Nat) (h : i + 4 ≤ p.length) : hd4 (p.drop i) = code p i := by
  have e : p.drop i = p.getD i 0 :: p.getD (i + 1) 0 :: p.getD (i + 2) 0 :: p.getD (i + 3) 0 :: p.drop (i + 4) := by
    rw [drop_cons' p i (by omega), drop_cons' p (i + 1) (by omega), drop_cons' p (i + 2) (by omega), drop_cons' p (i + 3) (by omega)]
  have h0 : ∀ x : UInt8, (x == 0) = ((x.toNat : Int) == 0) := fun x => by
    rw [Bool.eq_iff_iff]; simp only [beq_iff_eq]
    exact ⟨fun h => by subst h; rfl, fun h => UInt8.toNat_inj.1 (by simpa using h)⟩
  have h1 : ∀ x : UInt8, (x == 1) = ((x.toNat : Int) == 1) := fun x => by
    rw [Bool.eq_iff_iff]; simp only [beq_iff_eq]
    exact ⟨fun h => by subst h; rfl, fun h => UInt8.toNat_inj.1 (by simp; omega)⟩
  rw [e]
  simp only [hd4, code, byt, bne, h0, h1]
theorem hd4_len {l : List UInt8} (h : hd4 l = true) : 4 ≤ l.length := by
  match l with
  | [] => cases h
  | [_] => cases h
  | [_, _] => cases h
  | [_, _, _] => cases h
  | _ :: _ :: _ :: _ :: _ => simp
theorem nxt_fnd (p : List UInt8) (i : Nat) (h : i ≤ p.length) : nxt p i = i + fnd0 (p.drop i) := by
  induction hm : p.length - i using Nat.strongRecOn generalizing i with
  | _ n ih =>
    rcases Nat.lt_or_ge i p.length with h1 | h1
    · have ed := drop_cons' p i h1
      rw [nxt]
      by_cases h4 : i + 4 ≤ p.length
      · rw [if_pos h4]
        have hc := hd4_code p i h4
        cases hx : code p i with
        | true =>
          rw [ed, fnd0, ← ed, hc, hx]
          simp
        | false =>
          rw [ed, fnd0, ← ed, hc, hx, ih (p.length - (i + 1)) (by omega) (i + 1) (by omega) rfl]
          simp; omega
      · rw [if_neg h4]
        have hs : ∀ l : List UInt8, l.length < 4 → fnd0 l = l.length := by
          intro l
          induction l with
          | nil => intro _; rfl
          | cons c r ihl =>
            intro hl
            have hf : hd4 (c :: r) = false := by
              cases hx : hd4 (c :: r) with
              | false => rfl
              | true => have := hd4_len hx; omega
            rw [fnd0, hf, ihl (by simp at hl; omega)]
            simp; omega
        rw [hs _ (by simp; omega)]
        simp; omega
    · have : i = p.length := by omega
      subst this
      rw [nxt, if_neg (by omega), List.drop_length]
      rfl

def last0 (l : List UInt8) : Prop := l.getLast? = some 0
theorem fnd_noc : ∀ (l R : List UInt8) (z : Nat), noc z l → ¬ last0 l → fnd0 (l ++ R) = l.length + fnd0 R
  | [], R, z, _, _ => by simp
  | c :: r, R, z, hn, hl => by
    have hl' : ¬ last0 r := fun h => hl (by
      cases r with
      | nil => cases h
      | cons d r => simpa [last0] using h)
    have hf : hd4 (c :: (r ++ R)) = false := by
      cases hx : hd4 (c :: (r ++ R)) with
      | false => rfl
      | true =>
        match r, hn, hl, hx with
        | [], hn, hl, hx =>
          match R, hx with
          | b :: d :: e :: R, hx => simp [hd4] at hx; rw [hx.1.1.1] at hl; exact absurd rfl hl
        | [b], hn, hl, hx =>
          match R, hx with
          | d :: e :: R, hx => simp [hd4] at hx; rw [hx.1.1.2] at hl; exact absurd rfl hl
        | b :: d :: r, hn, hl, hx =>
          have h3 : c = 0 ∧ b = 0 ∧ d = 1 := by
            match r, R, hx with
            | e :: r, R, hx => simp [hd4] at hx; exact ⟨hx.1.1.1, hx.1.1.2, hx.1.2⟩
            | [], e :: R, hx => simp [hd4] at hx; exact ⟨hx.1.1.1, hx.1.1.2, hx.1.2⟩
          obtain ⟨rfl, rfl, rfl⟩ := h3
          have := hn.2.2.1
          simp [run0] at this
    rw [List.cons_append, fnd0, hf, fnd_noc r R _ hn.2 hl']
    simp; omega
theorem fnd_zs : ∀ (k : Nat) (R : List UInt8), (R = [] ∨ hd4 R = true) → fnd0 (zrs k ++ R) = k
  | 0, R, h => by
    rcases h with rfl | h
    · rfl
    · cases R with
      | nil => rfl
      | cons c r => simp [zrs, fnd0, h]
  | k + 1, R, h => by
    have e : zrs (k + 1) ++ R = 0 :: (zrs k ++ R) := by simp [zrs, List.replicate_succ]
    have hf : hd4 (0 :: (zrs k ++ R)) = false := by
      match k, R, h with
      | 0, [], _ => rfl
      | 0, c :: R, h =>
        match R, h with
        | b :: d :: e :: R, h =>
          simp [hd4] at h
          simp [zrs, hd4, h.1.1.1, h.1.1.2]
      | 1, [], _ => rfl
      | 1, c :: R, h =>
        match R, h with
        | b :: d :: e :: R, h =>
          simp [hd4] at h
          simp [zrs, hd4, h.1.1.1]
      | k + 2, R, h =>
        cases hx : hd4 (0 :: (zrs (k + 2) ++ R)) with
        | false => rfl
        | true =>
          have e : zrs (k + 2) ++ R = 0 :: 0 :: (zrs k ++ R) := by simp [zrs, List.replicate_succ]
          rw [e] at hx
          match hq : zrs k ++ R, hx with
          | [], hx => cases hx
          | _ :: _, hx => simp [hd4] at hx
    rw [e, fnd0, hf, fnd_zs k R h]
    simp; omega

/-! ### a unit -/
/-- A unit's bytes. -/
def cdB (u : Int × List UInt8) : List UInt8 := (fmtR u.1 u.2).1
structure WfU (u : Int × List UInt8) (T : UInt8) (e : List UInt8) : Prop where
  eq : cdB u = 0 :: 0 :: 1 :: T :: e
  t : u.1 = (T.toNat : Int)
  nz : T ≠ 0
  noc : noc 0 e
  last : ¬ last0 e
  un : unR e = (u.2, 0)
theorem wfU_of {u : Int × List UInt8} (h : (fmtR u.1 u.2).2 = 0) : ∃ T e, WfU u T e := by
  obtain ⟨t, p⟩ := u
  simp only at h
  have hc : cdB (t, p) = (fmtR t p).1 := rfl
  unfold fmtR at h
  by_cases h1 : t < 1 ∨ 255 < t
  · rw [if_pos h1] at h; simp at h
  · rw [if_neg h1] at h
    rcases escR_cases p with h2 | h2
    · rw [h2] at h; simp at h
    · have hend : ends0 p = false := by
        cases hx : ends0 p with
        | false => rfl
        | true => rw [escR, if_pos hx] at h2; simp at h2
      have hT : (UInt8.ofNat t.toNat).toNat = t.toNat := by simp; omega
      refine ⟨UInt8.ofNat t.toNat, escL 0 p, ?_, ?_, ?_, noc_escL p 0 (by omega), ?_, ?_⟩
      · rw [hc]; unfold fmtR; rw [if_neg h1, h2, if_pos rfl, esc_eq]; rfl
      · simp only; omega
      · intro e; rw [e] at hT; simp at hT; omega
      · intro hl
        unfold last0 at hl
        rw [escL_last, ] at hl
        rw [ends0_last, hl] at hend
        simp at hend
      · rw [← esc_eq]; exact une_nil_escR h2

/-- Units, and zeros behind each. -/
def unW : List ((Int × List UInt8) × Nat) → List UInt8
  | [] => []
  | (u, z) :: r => cdB u ++ zrs z ++ unW r
def fndW : Nat → List ((Int × List UInt8) × Nat) → List Fnd
  | _, [] => []
  | a, (u, z) :: r => ⟨u.1, u.2, a, a + (cdB u).length, a + (cdB u).length + z⟩ :: fndW (a + (cdB u).length + z) r
def OksU (l : List ((Int × List UInt8) × Nat)) : Prop := ∀ x ∈ l, (fmtR x.1.1 x.1.2).2 = 0
theorem hd4_W {l : List ((Int × List UInt8) × Nat)} {R : List UInt8} (h : OksU l) (hR : R = [] ∨ hd4 R = true) : unW l ++ R = [] ∨ hd4 (unW l ++ R) = true := by
  cases l with
  | nil => exact hR
  | cons x r =>
    obtain ⟨u, z⟩ := x
    obtain ⟨T, e, hw⟩ := wfU_of (h (u, z) (by simp))
    right
    simp only [unW, hw.eq]
    have := hw.nz
    simp [hd4, this]

theorem trm_zs (b A : List UInt8) (lo : Nat) (B : List UInt8) : ∀ (z : Nat), b = A ++ (zrs z ++ B) → lo ≤ A.length → (lo < A.length → byt b (A.length - 1) ≠ 0) → trm b lo (A.length + z) = A.length := by
  intro z hb hlo hlast
  have key : ∀ j, j ≤ z → trm b lo (A.length + j) = A.length := by
    intro j
    induction j with
    | zero =>
      intro _
      exact trm_stop b lo A.length (fun hh => hlast hh.1 hh.2)
    | succ j ih =>
      intro hj
      have hz : byt b (A.length + j) = 0 := by
        unfold byt
        rw [hb]
        simp only [List.getD]
        rw [List.getElem?_append_right (by omega), List.getElem?_append_left (by simp [zrs]; omega)]
        rw [show A.length + j - A.length = j by omega]
        simp [zrs, show j < z by omega]
      rw [trm_step b lo (A.length + (j + 1)) ⟨by omega, by rw [show A.length + (j + 1) - 1 = A.length + j by omega]; exact hz⟩]
      rw [show A.length + (j + 1) - 1 = A.length + j by omega]
      exact ih (by omega)
  exact key z (Nat.le_refl _)

theorem step_found (A R : List UInt8) (u : Int × List UInt8) (z n : Nat) (us : List Fnd) (ds : List (Nat × Nat)) (h : (fmtR u.1 u.2).2 = 0) (hR : R = [] ∨ hd4 R = true) :
    splF (A ++ (cdB u ++ zrs z ++ R)) (n + 1) A.length us ds = splF (A ++ (cdB u ++ zrs z ++ R)) n (A.length + (cdB u).length + z) (us ++ [⟨u.1, u.2, A.length, A.length + (cdB u).length, A.length + (cdB u).length + z⟩]) ds := by
  obtain ⟨T, e, hw⟩ := wfU_of h
  generalize hb : A ++ (cdB u ++ zrs z ++ R) = b
  have hcl : (cdB u).length = 4 + e.length := by rw [hw.eq]; simp; omega
  have hb1 : b = (A ++ [0, 0, 1, T]) ++ (e ++ (zrs z ++ R)) := by rw [← hb, hw.eq]; simp
  have hbl : b.length = A.length + 4 + e.length + z + R.length := by rw [hb1]; simp [zrs]; omega
  have hdr : b.drop (A.length + 4) = e ++ (zrs z ++ R) := by
    rw [hb1, List.drop_append_of_le_length (by simp), List.drop_of_length_le (by simp)]
    rfl
  have hnx : nxt b (A.length + 4) = A.length + 4 + e.length + z := by
    rw [nxt_fnd b _ (by omega), hdr, fnd_noc e _ 0 hw.noc hw.last, fnd_zs z R hR]
    omega
  have hb2 : b = (A ++ [0, 0, 1, T] ++ e) ++ (zrs z ++ R) := by rw [hb1]; simp
  have hAl : (A ++ [0, 0, 1, T] ++ e).length = A.length + 4 + e.length := by simp; omega
  have htr : trm b (A.length + 4) (A.length + 4 + e.length + z) = A.length + 4 + e.length := by
    have := trm_zs b (A ++ [0, 0, 1, T] ++ e) (A.length + 4) R z hb2 (by rw [hAl]; omega) (fun hlt h0 => ?_)
    · rwa [hAl] at this
    · rw [hAl] at hlt h0
      refine hw.last ?_
      have he : e ≠ [] := fun e' => by subst e'; simp at hlt
      unfold last0
      rw [List.getLast?_eq_getElem?]
      unfold byt at h0
      rw [hb1] at h0
      simp only [List.getD] at h0
      rw [List.getElem?_append_right (by simp; omega), List.getElem?_append_left (by simp; omega)] at h0
      rw [show A.length + 4 + e.length - 1 - (A ++ [0, 0, 1, T]).length = e.length - 1 by simp; omega] at h0
      have hlt2 : e.length - 1 < e.length := by have := List.length_pos_iff.2 he; omega
      rw [List.getElem?_eq_getElem hlt2] at h0 ⊢
      simp only [Option.getD_some] at h0
      congr 1
      exact UInt8.toNat_inj.1 (by simpa using h0)
  have hpart : part b (A.length + 4) (A.length + 4 + e.length) = e := by
    unfold part
    rw [hdr, show A.length + 4 + e.length - (A.length + 4) = e.length by omega, List.take_left']
    rfl
  have hby : byt b (A.length + 3) = u.1 := by
    unfold byt
    rw [hb1]
    simp only [List.getD]
    rw [List.getElem?_append_left (by simp), List.getElem?_append_right (by omega)]
    rw [show A.length + 3 - A.length = 3 by omega]
    simp [hw.t]
  rw [splF, if_pos (by omega), hnx, htr, hpart, hw.un, if_pos rfl, hby, hcl]
  simp only [Nat.add_assoc]
theorem unW_append (l r : List ((Int × List UInt8) × Nat)) : unW (l ++ r) = unW l ++ unW r := by
  induction l with
  | nil => rfl
  | cons x l ih => obtain ⟨u, z⟩ := x; simp [unW, ih]

theorem foundW : ∀ (l : List ((Int × List UInt8) × Nat)) (A R : List UInt8) (n : Nat) (us : List Fnd) (ds : List (Nat × Nat)), OksU l → (R = [] ∨ hd4 R = true) →
    splF (A ++ (unW l ++ R)) (l.length + n) A.length us ds = splF (A ++ (unW l ++ R)) n (A.length + (unW l).length) (us ++ fndW A.length l) ds
  | [], A, R, n, us, ds, _, _ => by simp [unW, fndW]
  | (u, z) :: r, A, R, n, us, ds, h, hR => by
    have hr : OksU r := fun x hx => h x (by simp [hx])
    have h1 := step_found A (unW r ++ R) u z (r.length + n) us ds (h (u, z) (by simp)) (hd4_W hr hR)
    have e : A ++ (cdB u ++ zrs z ++ (unW r ++ R)) = (A ++ (cdB u ++ zrs z)) ++ (unW r ++ R) := by simp
    have hl : (A ++ (cdB u ++ zrs z)).length = A.length + (cdB u).length + z := by simp [zrs]; omega
    have h2 := foundW r (A ++ (cdB u ++ zrs z)) R n (us ++ [⟨u.1, u.2, A.length, A.length + (cdB u).length, A.length + (cdB u).length + z⟩]) ds hr hR
    rw [hl, ← e] at h2
    have e2 : A ++ (unW ((u, z) :: r) ++ R) = A ++ (cdB u ++ zrs z ++ (unW r ++ R)) := by simp [unW]
    rw [e2, show ((u, z) :: r).length + n = r.length + n + 1 by simp; omega, h1, h2]
    congr 1
    · simp [unW, zrs]; omega
    · simp [fndW]

theorem splF_end (b : List UInt8) (n : Nat) (us : List Fnd) (ds : List (Nat × Nat)) : splF b n b.length us ds = (us, ds) := by
  cases n with
  | zero => rfl
  | succ n => rw [splF, if_neg (by omega)]

theorem cdB_pos {u : Int × List UInt8} (h : (fmtR u.1 u.2).2 = 0) : 4 ≤ (cdB u).length := by
  obtain ⟨T, e, hw⟩ := wfU_of h
  rw [hw.eq]; simp
theorem unW_len {l : List ((Int × List UInt8) × Nat)} (h : OksU l) : l.length ≤ (unW l).length := by
  induction l with
  | nil => simp
  | cons x r ih =>
    obtain ⟨u, z⟩ := x
    have h1 : 4 ≤ (cdB u).length := cdB_pos (h (u, z) (by simp))
    have h2 := ih fun x hx => h x (by simp [hx])
    simp [unW] at h2 ⊢
    omega

/-- Units with zeros behind each are found at their places, and nothing else is. -/
theorem spl_unW {l : List ((Int × List UInt8) × Nat)} (hok : OksU l) : spl (unW l) = (fndW 0 l, []) := by
  by_cases hn : l = []
  · subst hn; show spl [] = ([], []); simp [spl, nxt, trm, splF]
  · have hhd := hd4_W (R := []) hok (.inl rfl)
    rw [List.append_nil] at hhd
    have hx : nxt (unW l) 0 = 0 := by
      have := fnd_zs 0 _ hhd
      rw [nxt_fnd _ _ (Nat.zero_le _), List.drop_zero]
      simpa [zrs] using this
    unfold spl
    rw [hx, show trm (unW l) 0 0 = 0 from rfl, if_neg (by omega)]
    have h1 := unW_len hok
    obtain ⟨m, hm⟩ : ∃ m, (unW l).length + 1 = l.length + m := ⟨(unW l).length + 1 - l.length, by omega⟩
    have h2 := foundW l [] [] m [] [] hok (.inl rfl)
    simp only [List.append_nil, List.nil_append, List.length_nil, Nat.zero_add] at h2
    rw [hm, h2, splF_end]

end Go.Proofs.YtbhdollgohgkgaaDoor.S3
