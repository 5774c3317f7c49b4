/-
  Contracts of chapter 3: the statements' own 'formed'; the law StartcodeClean's contract.
-/
import Derived.Test.YtdeehmdkpdgpfaaSg
namespace Go.Proofs.Ytdeehmdkpdgpfaa.Sc
set_option linter.all false
set_option linter.unusedVariables false
set_option linter.unusedSimpArgs false
open Pm Ty Go.RowKit

/-- Units, as the cells of a slice. -/
def uc (f : Bool) (us : List (Int × List UInt8)) : List PV := us.flatMap fun u => [.int .i64 u.1, .slice (bs u.2) u.2.length f]
theorem uc_cons (f : Bool) (u : Int × List UInt8) (us : List (Int × List UInt8)) : uc f (u :: us) = .int .i64 u.1 :: .slice (bs u.2) u.2.length f :: uc f us := rfl
theorem uc_len (f : Bool) (us : List (Int × List UInt8)) : (uc f us).length = us.length * 2 := by
  induction us with
  | nil => rfl
  | cons u us ih => rw [uc_cons, List.length_cons, List.length_cons, ih, List.length_cons]; omega
def un (us : List (Int × List UInt8)) (i : Nat) : Int × List UInt8 := us.getD i (0, [])
theorem uc_drop (f : Bool) : ∀ (us : List (Int × List UInt8)) (i : Nat), i < us.length → (uc f us).drop (i * 2) = .int .i64 (un us i).1 :: .slice (bs (un us i).2) (un us i).2.length f :: (uc f us).drop (i * 2 + 2)
  | u :: us, 0, _ => rfl
  | u :: us, i + 1, h => by
    have := uc_drop f us i (by simpa using h)
    rw [uc_cons, show (i + 1) * 2 = i * 2 + 1 + 1 by omega, List.drop_succ_cons, List.drop_succ_cons, this]
    rfl
theorem uc_take (f : Bool) (us : List (Int × List UInt8)) (i : Nat) (h : i < us.length) : ((uc f us).drop (i * 2)).take 2 = [.int .i64 (un us i).1, .slice (bs (un us i).2) (un us i).2.length f] := by
  rw [uc_drop f us i h]; rfl
theorem uc_0 (f : Bool) (us : List (Int × List UInt8)) (i : Nat) (h : i < us.length) : (uc f us)[i * 2]? = some (.int .i64 (un us i).1) := by
  have := congrArg (fun l => l[0]?) (uc_drop f us i h)
  simpa using this
theorem uc_1 (f : Bool) (us : List (Int × List UInt8)) (i : Nat) (h : i < us.length) : (uc f us)[i * 2 + 1]? = some (.slice (bs (un us i).2) (un us i).2.length f) := by
  have := congrArg (fun l => l[1]?) (uc_drop f us i h)
  simpa using this

def unitOk (u : Int × List UInt8) : Bool := decide (u.2.length ≤ 100) && ((fmtR u.1 u.2).2 == 0)
def formedB (us : List (Int × List UInt8)) : Bool := decide (us.length ≤ 20) && us.all unitOk

theorem formed_ok (us : List (Int × List UInt8)) (f g : Bool) (H : Heap) : CallOk Try.prog 15 [.slice (uc f us) us.length g] H (.bool (formedB us)) H := by
  refine CallOk.body (F0 := [(0, .slice (uc f us) us.length g)]) Try.func15 rfl Try.ntmps15 Try.results15 rfl (by kernel_rfl) rfl ?_
  refine PW.seq ?_; refine PW.rg rfl fun K hK => ?_; simp (disch := omega) only [go_sem, ↓reduceIte, reduceCtorEq, pappend, plen]; refine hK _ _ ?_; clear hK K
  refine PW.seq (PW.seq ?_); refine PW.rg rfl fun K hK => ?_; simp (disch := omega) only [go_sem, ↓reduceIte, reduceCtorEq, pappend, plen]; refine hK _ _ ?_; clear hK K
  refine PW.cond (t := _) rfl (fun h => ?_) (fun h => ?_)
  · have h1 : ¬ us.length ≤ 20 := by have := of_decide_eq_true h; omega
    refine PW.seq ?_; refine PW.rg rfl fun K hK => ?_; simp (disch := omega) only [go_sem, ↓reduceIte, reduceCtorEq, pappend, plen]; refine hK _ _ ?_; clear hK K
    refine PW.ret ⟨_, rfl, .inl ⟨?_, rfl⟩⟩
    simp [formedB, h1, slot, Nat.beq]
  have h20 : us.length ≤ 20 := by have := of_decide_eq_false h; omega
  refine PW.skip (PW.seq (PW.seq ?_)); refine PW.rg rfl fun K hK => ?_; simp (disch := omega) only [go_sem, ↓reduceIte, reduceCtorEq, pappend, plen]; refine hK _ _ ?_; clear hK K
  refine PW.block (PW.loop ?_)
  suffices hloop : ∀ (k : Nat), k ≤ us.length → formedB us = (us.drop k).all unitOk → PL Try.prog _ _ [(0, .slice (uc f us) us.length g), (3, .int .i64 (k : Int))] H _ by
    exact PL.keep [0, 3] (hloop 0 (Nat.zero_le _) (by simp [formedB, h20]))
  intro k hk heq
  induction hm : us.length - k using Nat.strongRecOn generalizing k with
  | _ n ih =>
    refine PL.round (PW.seq (PW.seq ?_)); refine PW.rg rfl fun K hK => ?_; simp (disch := omega) only [go_sem, ↓reduceIte, reduceCtorEq, pappend, plen]; refine hK _ _ ?_; clear hK K
    refine PW.cond (t := _) rfl (fun h => ?_) (fun h => ?_)
    · have h4 : k < us.length := by have := of_decide_eq_true h; omega
      have hd : us.drop k = un us k :: us.drop (k + 1) := by
        rw [List.drop_eq_getElem_cons h4]; simp [un, h4]
      rw [hd, List.all_cons] at heq
      refine PW.skip (PW.seq (PW.block (PW.seq (PW.seq ?_)))); refine PW.rg rfl fun K hK => ?_; simp (disch := omega) only [go_sem, ↓reduceIte, reduceCtorEq, pappend, plen, uc_len, uc_1]; refine hK _ _ ?_; clear hK K
      refine PW.cond (t := _) rfl (fun h => ?_) (fun h => ?_)
      · have h5 : ¬ (un us k).2.length ≤ 100 := by have := of_decide_eq_true h; omega
        refine PW.seq ?_; refine PW.rg rfl fun K hK => ?_; simp (disch := omega) only [go_sem, ↓reduceIte, reduceCtorEq, pappend, plen]; refine hK _ _ ?_; clear hK K
        refine PW.ret ⟨_, rfl, .inl ⟨?_, rfl⟩⟩
        simp [heq, unitOk, h5, slot, Nat.beq]
      have h5 : (un us k).2.length ≤ 100 := by have := of_decide_eq_false h; omega
      refine PW.skip (PW.seq ?_); refine PW.rg rfl fun K hK => ?_; simp (disch := omega) only [go_sem, ↓reduceIte, reduceCtorEq, pappend, plen, uc_len, uc_take]; refine VC.call (format_ref (un us k).1 (un us k).2 f _ (by omega)) rfl rfl ?_; simp (disch := omega) only [go_sem, ↓reduceIte, reduceCtorEq, pappend, plen]; refine hK _ _ ?_; clear hK K
      refine PW.seq ?_; refine PW.rg rfl fun K hK => ?_; simp (disch := omega) only [go_sem, ↓reduceIte, reduceCtorEq, pappend, plen]; refine hK _ _ ?_; clear hK K
      refine PW.cond (t := _) rfl (fun h => ?_) (fun h => ?_)
      · have h6 : ¬ (fmtR (un us k).1 (un us k).2).2 = 0 := by simpa using h
        refine PW.seq ?_; refine PW.rg rfl fun K hK => ?_; simp (disch := omega) only [go_sem, ↓reduceIte, reduceCtorEq, pappend, plen]; refine hK _ _ ?_; clear hK K
        refine PW.ret ⟨_, rfl, .inl ⟨?_, rfl⟩⟩
        simp [heq, unitOk, h6, slot, Nat.beq]
      · have h6 : (fmtR (un us k).1 (un us k).2).2 = 0 := by simpa using h
        refine PW.skip ?_; refine PW.rg rfl fun K hK => ?_; simp (disch := omega) only [go_sem, ↓reduceIte, reduceCtorEq, pappend, plen]; refine hK _ _ ?_; clear hK K
        refine PL.keep [0, 3] ?_
        refine ih (us.length - (k + 1)) (by omega) (k + 1) (by omega) ?_ rfl
        rw [heq]; simp [unitOk, h5, h6]
    · have h4 : k = us.length := by have := of_decide_eq_false h; omega
      subst h4
      refine PW.exit (PW.seq ?_); refine PW.rg rfl fun K hK => ?_; simp (disch := omega) only [go_sem, ↓reduceIte, reduceCtorEq, pappend, plen]; refine hK _ _ ?_; clear hK K
      refine PW.ret ⟨_, rfl, .inl ⟨?_, rfl⟩⟩
      rw [heq]; simp [slot, Nat.beq]

/-! ### no start code within -/
def noc : Nat → List UInt8 → Prop
  | _, [] => True
  | z, c :: r => ¬ (2 ≤ z ∧ c.toNat < 3) ∧ noc (run0 z c) r
theorem noc_escL : ∀ (p : List UInt8) (z : Nat), z ≤ 2 → noc z (escL z p)
  | [], z, _ => trivial
  | c :: r, z, hz => by
    unfold escL
    by_cases h : z = 2 ∧ c.toNat < 4
    · rw [if_pos h]
      refine ⟨fun hh => absurd hh.2 (by decide), ?_⟩
      rw [show run0 z 3 = 0 from rfl]
      exact ⟨by omega, noc_escL r _ (by have := run0_le 0 c; omega)⟩
    · rw [if_neg h]
      refine ⟨by omega, noc_escL r _ ?_⟩
      unfold run0
      split <;> omega
theorem noc_at : ∀ (l : List UInt8) (z : Nat), noc z l → ∀ i, i + 2 < l.length → ¬ (byt l i = 0 ∧ byt l (i + 1) = 0 ∧ byt l (i + 2) < 3)
  | [], z, _, i, hi => by simp at hi
  | [a], z, _, i, hi => by simp only [List.length_cons, List.length_nil] at hi; omega
  | [a, b], z, _, i, hi => by simp only [List.length_cons, List.length_nil] at hi; omega
  | a :: b :: c :: r, z, h, 0, _ => by
    rintro ⟨h1, h2, h3⟩
    have e1 : a.toNat = 0 := by simpa [byt] using h1
    have e2 : b.toNat = 0 := by simpa [byt] using h2
    have e3 : (c.toNat : Int) < 3 := h3
    have := h.2.2.1
    simp [run0, e1, e2] at this
    omega
  | a :: b :: c :: r, z, h, i + 1, hi => noc_at (b :: c :: r) _ h.2 i (by simpa using hi)

theorem clean_facts (t : Int) (p : List UInt8) (he : (fmtR t p).2 = 0) (b : List UInt8) (hb : b = (fmtR t p).1) :
    4 ≤ b.length ∧ byt b (b.length - 1) ≠ 0 ∧ (∀ i, 1 ≤ i → i + 2 < b.length → ¬ (byt b i = 0 ∧ byt b (i + 1) = 0 ∧ byt b (i + 2) < 3)) ∧ b.length = 4 + (esc p).length := by
  unfold fmtR at he hb
  by_cases h1 : t < 1 ∨ 255 < t
  · rw [if_pos h1] at he; simp at he
  · rw [if_neg h1] at he hb
    rcases escR_cases p with h2 | h2
    · rw [h2] at he; simp at he
    · have hend : ends0 p = false := by
        cases hx : ends0 p with
        | false => rfl
        | true => rw [escR, if_pos hx] at h2; simp at h2
      rw [h2, if_pos rfl] at hb
      simp only at hb
      have hT : (UInt8.ofNat t.toNat).toNat = t.toNat := by simp; omega
      generalize UInt8.ofNat t.toNat = T at hb hT
      have hl : b.length = 4 + (esc p).length := by rw [hb]; simp; omega
      refine ⟨by omega, ?_, ?_, hl⟩
      · have hlast : ends0 b = false := by
          rw [ends0_last, hb, esc_eq]
          cases hx : escL 0 p with
          | nil =>
            have : ¬ T = 0 := fun e => by rw [e] at hT; simp at hT; omega
            simp [this]
          | cons c r =>
            have h3 := escL_last p 0
            rw [hx] at h3
            have h4 := ends0_last p
            rw [hend, ← h3] at h4
            obtain ⟨y, hy⟩ : ∃ y, (c :: r).getLast? = some y := ⟨_, List.getLast?_eq_some_getLast (by simp)⟩
            rw [List.getLast?_append, hy]
            rw [hy] at h4
            exact h4.symm
        unfold ends0 at hlast
        simpa [show 0 < b.length by omega] using hlast
      · intro i hi hi2
        have hn : noc 0 (0 :: 1 :: T :: escL 0 p) := by
          refine ⟨by omega, ⟨?_, ?_⟩⟩
          · simp [run0]
          · rw [show run0 (run0 0 0) 1 = 0 from rfl]
            refine ⟨by omega, ?_⟩
            have : run0 0 T = 0 := by unfold run0; rw [if_neg (by omega)]
            rw [this]
            exact noc_escL p 0 (by omega)
        obtain ⟨j, rfl⟩ : ∃ j, i = j + 1 := ⟨i - 1, by omega⟩
        have hb' : b = 0 :: 0 :: 1 :: T :: escL 0 p := by rw [hb, esc_eq]; rfl
        have h5 := noc_at _ _ hn j (by rw [hb'] at hi2; simp at hi2 ⊢; omega)
        rw [hb']
        exact h5

theorem law_clean (t : Int) (p : List UInt8) (full : Bool) (H : Heap) :
    CallOk Try.prog 4 [.agg [.int .i64 t, .slice (bs p) p.length full]] H (.bool true) H := by
  refine CallOk.body (F0 := [(0, .agg [.int .i64 t, .slice (bs p) p.length full])]) Try.func4 rfl Try.ntmps4 Try.results4 rfl (by kernel_rfl) rfl ?_
  refine PW.seq ?_; refine PW.rg rfl fun K hK => ?_; simp (disch := omega) only [go_sem, ↓reduceIte, reduceCtorEq, pappend, plen]; refine hK _ _ ?_; clear hK K
  refine PW.seq (PW.seq ?_); refine PW.rg rfl fun K hK => ?_; simp (disch := omega) only [go_sem, ↓reduceIte, reduceCtorEq, pappend, plen]; refine VC.call (formed_ok [(t, p)] full true _) rfl rfl ?_; simp (disch := omega) only [go_sem, ↓reduceIte, reduceCtorEq, pappend, plen]; refine hK _ _ ?_; clear hK K
  refine PW.cond (t := _) rfl (fun h => ?_) (fun h => ?_)
  · refine PW.seq ?_; refine PW.rg rfl fun K hK => ?_; simp (disch := omega) only [go_sem, ↓reduceIte, reduceCtorEq, pappend, plen]; refine VC.call (awake_ok _) rfl rfl ?_; simp (disch := omega) only [go_sem, ↓reduceIte, reduceCtorEq, pappend, plen]; refine hK _ _ ?_; clear hK K
    exact PW.ret ⟨_, rfl, Fin.give (Kept.more H _) ((Still.bool _).frz _ _)⟩
  have hf : p.length ≤ 100 ∧ (fmtR t p).2 = 0 := by simpa [formedB, unitOk] using h
  obtain ⟨c1, c2, c3, c4⟩ := clean_facts t p hf.2 _ rfl
  have hlen : (fmtR t p).1.length ≤ 1000 := by have := (escS_bd p).2; unfold esc at c4; omega
  refine PW.skip (PW.seq ?_); refine PW.rg rfl fun K hK => ?_; simp (disch := omega) only [go_sem, ↓reduceIte, reduceCtorEq, pappend, plen]; refine VC.call (format_ok t p full _ (by omega)) rfl rfl ?_; simp (disch := omega) only [go_sem, ↓reduceIte, reduceCtorEq, pappend, plen]; refine hK _ _ ?_; clear hK K
  rw [hf.2]
  generalize (fmtR t p).1 = b at *
  have hb0 := byt_range b (b.length - 1)
  refine PW.seq (PW.seq (PW.rg1 [3, 31] [(3, bv b), (31, .bool false)] (H ++ [⟨24, 0, [.int .i64 t, .slice (bs p) p.length full]⟩]) rfl ?_ ?_))
  · simp (disch := omega) only [go_sem, ↓reduceIte, reduceCtorEq, pappend, plen, bv, length_bs, bs_get]
  refine PW.cond (t := _) rfl (fun h => by cases h) (fun _ => ?_)
  refine PW.skip (PW.seq (PW.seq ?_)); refine PW.rg rfl fun K hK => ?_; simp (disch := omega) only [go_sem, ↓reduceIte, reduceCtorEq, pappend, plen]; refine hK _ _ ?_; clear hK K
  refine PW.block (PW.loop ?_)
  suffices hloop : ∀ (k : Nat) (H1 : Heap), 1 ≤ k → k ≤ b.length → Kept H.length H H1 → PL Try.prog _ _ [(3, bv b), (5, .int .i64 (k : Int))] H1 _ by
    exact PL.keep [3, 5] (hloop 1 _ (by omega) (by omega) (Kept.more H _))
  intro k H1 hk hk2 hkept
  induction hm : b.length - k using Nat.strongRecOn generalizing k with
  | _ n ih =>
    refine PL.round (PW.seq (PW.seq ?_)); refine PW.rg rfl fun K hK => ?_; simp (disch := omega) only [go_sem, ↓reduceIte, reduceCtorEq, pappend, plen, bv, length_bs]; refine hK _ _ ?_; clear hK K
    refine PW.cond (t := _) rfl (fun h => ?_) (fun h => ?_)
    · have h4 : k + 2 < b.length := by have := of_decide_eq_true h; omega
      have h5 := c3 k hk h4
      refine PW.skip (PW.seq (PW.block (PW.seq (PW.rg1 [3, 5, 59] [(3, bv b), (5, .int .i64 (k : Int)), (59, .bool false)] H1 rfl ?_ ?_))))
      · by_cases h1 : byt b k = 0 <;> by_cases h2 : byt b (k + 1) = 0
        all_goals simp (disch := omega) only [go_sem, ↓reduceIte, reduceCtorEq, pappend, plen, bv, length_bs, bs_get]
        all_goals try simp [h1, h2]
      refine PW.cond (t := _) rfl (fun h => by cases h) (fun _ => ?_)
      refine PW.skip ?_; refine PW.rg rfl fun K hK => ?_; simp (disch := omega) only [go_sem, ↓reduceIte, reduceCtorEq, pappend, plen]; refine hK _ _ ?_; clear hK K
      refine PL.keep [3, 5] ?_
      exact ih (b.length - (k + 1)) (by omega) (k + 1) (by omega) (by omega) rfl
    · refine PW.exit (PW.seq ?_); refine PW.rg rfl fun K hK => ?_; simp (disch := omega) only [go_sem, ↓reduceIte, reduceCtorEq, pappend, plen]; refine VC.call (awake_ok _) rfl rfl ?_; simp (disch := omega) only [go_sem, ↓reduceIte, reduceCtorEq, pappend, plen]; refine hK _ _ ?_; clear hK K
      exact PW.ret ⟨_, rfl, Fin.give hkept ((Still.bool _).frz _ _)⟩

end Go.Proofs.Ytdeehmdkpdgpfaa.Sc
