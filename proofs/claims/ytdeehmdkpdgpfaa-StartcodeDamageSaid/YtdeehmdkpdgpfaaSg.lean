/-
  Contracts of chapter 3: the reference's Unescape; the law StartcodeUnescape's contract.
-/
import Derived.Test.YtdeehmdkpdgpfaaSf
namespace Go.Proofs.Ytdeehmdkpdgpfaa.Sc
set_option linter.all false
set_option linter.unusedVariables false
set_option linter.unusedSimpArgs false
open Pm Ty Go.RowKit

/-- The reference's first walk: what is left without the bytes 3 behind two bytes 0. -/
def ru : Nat → List UInt8 → List UInt8 → List UInt8
  | _, acc, [] => acc
  | z, acc, c :: r => if z = 2 ∧ c.toNat = 3 then ru 0 acc r else ru (if c.toNat = 0 then min (z + 1) 2 else 0) (acc ++ [c]) r
theorem ru_cons (z : Nat) (acc : List UInt8) (c : UInt8) (r : List UInt8) : ru z acc (c :: r) = if z = 2 ∧ c.toNat = 3 then ru 0 acc r else ru (if c.toNat = 0 then min (z + 1) 2 else 0) (acc ++ [c]) r := rfl
theorem ru_escL : ∀ (p acc : List UInt8) (z : Nat), z ≤ 2 → ru z acc (escL z p) = acc ++ p
  | [], acc, z, _ => by simp [escL, ru]
  | c :: r, acc, z, hz => by
    unfold escL
    by_cases h : z = 2 ∧ c.toNat < 4
    · rw [if_pos h, ru_cons, if_pos ⟨h.1, rfl⟩, ru_cons, if_neg (by omega)]
      have e : (if c.toNat = 0 then min (0 + 1) 2 else 0) = run0 0 c := by unfold run0; split <;> rfl
      rw [e, ru_escL r _ _ (by have := run0_le 0 c; omega)]
      simp
    · rw [if_neg h, ru_cons, if_neg (by omega)]
      have e : (if c.toNat = 0 then min (z + 1) 2 else 0) = run0 z c := by
        unfold run0
        by_cases h0 : c.toNat = 0
        · rw [if_pos h0, if_pos h0]; omega
        · rw [if_neg h0, if_neg h0]
      rw [e, ru_escL r _ _ (by unfold run0; split <;> omega)]
      simp
theorem ru_len : ∀ (b acc : List UInt8) (z : Nat), (ru z acc b).length ≤ acc.length + b.length
  | [], acc, z => by simp [ru]
  | c :: r, acc, z => by
    rw [ru_cons]
    split
    · have := ru_len r acc 0; simp; omega
    · have := ru_len r (acc ++ [c]) (if c.toNat = 0 then min (z + 1) 2 else 0); simp at this ⊢; omega
theorem unR_ref (b : List UInt8) : unR b = if (escR (ru 0 [] b)).2 ≠ 0 ∨ b ≠ (escR (ru 0 [] b)).1 then ([], 3) else (ru 0 [] b, 0) := by
  rcases unR_cases b with h | ⟨p, h⟩
  · rw [h, if_pos]
    by_cases h2 : (escR (ru 0 [] b)).2 = 0
    · right
      intro h1
      have : escR (ru 0 [] b) = (b, 0) := Prod.ext h1.symm h2
      rw [une_nil_escR this] at h
      simp at h
    · exact .inl h2
  · have he := escR_unR h
    have hr : ru 0 [] b = p := by
      rcases escR_cases p with h1 | h1
      · rw [h1] at he; simp at he
      · rw [h1] at he
        have : b = escL 0 p := by rw [← esc_eq]; exact (Prod.mk.inj he).1.symm
        rw [this, ru_escL p [] 0 (by omega)]
        rfl
    rw [h, hr, he, if_neg (by simp)]

theorem unescape_ref (b : List UInt8) (full : Bool) (H : Heap) (hl : b.length ≤ 400000) : CallOk Try.prog 19 [.slice (bs b) b.length full] H (.tup [bv (unR b).1, .int .i64 (unR b).2]) H := by
  refine CallOk.body (F0 := [(0, .slice (bs b) b.length full)]) Try.func19 rfl Try.ntmps19 Try.results19 rfl (by kernel_rfl) rfl ?_
  refine PW.seq ?_; refine PW.rg rfl fun K hK => ?_; simp (disch := omega) only [go_sem, ↓reduceIte, reduceCtorEq, pappend, plen]; refine hK _ _ ?_; clear hK K
  refine PW.seq ?_; refine PW.rg rfl fun K hK => ?_; simp (disch := omega) only [go_sem, ↓reduceIte, reduceCtorEq, pappend, plen]; refine hK _ _ ?_; clear hK K
  refine PW.seq ?_; refine PW.rg rfl fun K hK => ?_; simp (disch := omega) only [go_sem, ↓reduceIte, reduceCtorEq, pappend, plen]; refine hK _ _ ?_; clear hK K
  refine PW.seq (PW.seq ?_); refine PW.rg rfl fun K hK => ?_; simp (disch := omega) only [go_sem, ↓reduceIte, reduceCtorEq, pappend, plen]; refine hK _ _ ?_; clear hK K
  refine PW.block (PW.loop ?_)
  suffices hloop : ∀ (k z : Nat) (out : List UInt8) (v : PV) (H1 : Heap), k ≤ b.length → z ≤ 2 → out.length ≤ k → ru 0 [] b = ru z out (b.drop k) → Acc H.length 5 1 H1 v (bs out) out.length → Kept H.length H H1 →
      PL Try.prog _ _ [(0, .slice (bs b) b.length full), (4, v), (5, .int .i64 (z : Int)), (6, .int .i64 (k : Int))] H1 _ by
    exact PL.keep [0, 4, 5, 6] (hloop 0 0 [] _ H (Nat.zero_le _) (by omega) (by simp) rfl (Acc.nil _ _ _ _) (Kept.refl H))
  intro k z out v H1 hk hz ho heq hacc hkept
  induction hm : b.length - k using Nat.strongRecOn generalizing k z out v H1 with
  | _ n ih =>
    refine PL.round (PW.seq (PW.seq ?_)); refine PW.rg rfl fun K hK => ?_; simp (disch := omega) only [go_sem, ↓reduceIte, reduceCtorEq, pappend, plen, length_bs]; refine hK _ _ ?_; clear hK K
    refine PW.cond (t := _) rfl (fun h => ?_) (fun h => ?_)
    · have h4 : k < b.length := by have := of_decide_eq_true h; omega
      have hby := byt_range b k
      have hc : byt b k = ((b.getD k 0).toNat : Int) := rfl
      rw [drop_cons' b k h4, ru_cons] at heq
      refine PW.skip (PW.seq (PW.block ?_))
      refine PW.seq (PW.seq (PW.rg1 [0, 4, 5, 6, 23] [(0, .slice (bs b) b.length full), (4, v), (5, .int .i64 (z : Int)), (6, .int .i64 (k : Int)), (23, .bool (decide (z = 2 ∧ byt b k = 3)))] H1 rfl ?_ ?_))
      · by_cases h2 : z = 2
        · simp (disch := omega) only [go_sem, ↓reduceIte, reduceCtorEq, pappend, plen, length_bs, bs_get]
          try simp [h2]
          rw [Bool.eq_iff_iff]; simp
        · simp (disch := omega) only [go_sem, ↓reduceIte, reduceCtorEq, pappend, plen, length_bs, bs_get]
          try simp [h2]
      refine PW.cond (t := _) rfl (fun h => ?_) (fun h => ?_)
      · have h5 := of_decide_eq_true h
        rw [if_pos ⟨h5.1, by omega⟩] at heq
        refine PW.seq ?_; refine PW.rg rfl fun K hK => ?_; simp (disch := omega) only [go_sem, ↓reduceIte, reduceCtorEq, pappend, plen]; refine hK _ _ ?_; clear hK K
        refine PW.exit ?_
        refine PW.rg rfl fun K hK => ?_; simp (disch := omega) only [go_sem, ↓reduceIte, reduceCtorEq, pappend, plen]; refine hK _ _ ?_; clear hK K
        refine PL.keep [0, 4, 5, 6] ?_
        exact ih (b.length - (k + 1)) (by omega) (k + 1) 0 out v H1 (by omega) (by omega) (by omega) heq hacc hkept rfl
      · have h5 := of_decide_eq_false h
        rw [if_neg (by omega)] at heq
        obtain ⟨v2, H2, hap, hacc2, hk2⟩ := app_byte hacc (b.getD k 0) (by omega) hkept.1
        rw [← byt_get] at hap
        refine PW.skip (PW.seq ?_); refine PW.rg rfl fun K hK => ?_; simp (disch := omega) only [go_sem, ↓reduceIte, reduceCtorEq, plen, hap, length_bs, bs_get]; refine hK _ _ ?_; clear hK K
        refine PW.seq ?_; refine PW.rg rfl fun K hK => ?_; simp (disch := omega) only [go_sem, ↓reduceIte, reduceCtorEq, pappend, plen, length_bs, bs_get]; refine hK _ _ ?_; clear hK K
        refine PW.cond (t := _) rfl (fun h => ?_) (fun h => ?_)
        · have h6 : (b.getD k 0).toNat = 0 := by have : byt b k = 0 := by simpa using h
                                                 omega
          rw [if_pos h6] at heq
          have hmin : (if (2 : Int) < (z : Int) + 1 then (2 : Int) else (z : Int) + 1) = ((min (z + 1) 2 : Nat) : Int) := by split <;> omega
          refine PW.rg rfl fun K hK => ?_; simp (disch := omega) only [go_sem, ↓reduceIte, reduceCtorEq, pappend, plen, hmin]; refine hK _ _ ?_; clear hK K
          refine PW.rg rfl fun K hK => ?_; simp (disch := omega) only [go_sem, ↓reduceIte, reduceCtorEq, pappend, plen]; refine hK _ _ ?_; clear hK K
          refine PL.keep [0, 4, 5, 6] ?_
          refine ih (b.length - (k + 1)) (by omega) (k + 1) (min (z + 1) 2) (out ++ [b.getD k 0]) v2 H2 (by omega) (by omega) (by simp; omega) heq hacc2 (hk2 _ hkept) rfl
        · have h6 : ¬ (b.getD k 0).toNat = 0 := by have : ¬ byt b k = 0 := by simpa using h
                                                   omega
          rw [if_neg h6] at heq
          refine PW.rg rfl fun K hK => ?_; simp (disch := omega) only [go_sem, ↓reduceIte, reduceCtorEq, pappend, plen]; refine hK _ _ ?_; clear hK K
          refine PW.rg rfl fun K hK => ?_; simp (disch := omega) only [go_sem, ↓reduceIte, reduceCtorEq, pappend, plen]; refine hK _ _ ?_; clear hK K
          refine PL.keep [0, 4, 5, 6] ?_
          refine ih (b.length - (k + 1)) (by omega) (k + 1) 0 (out ++ [b.getD k 0]) v2 H2 (by omega) (by omega) (by simp; omega) heq hacc2 (hk2 _ hkept) rfl
    · have h4 : k = b.length := by have := of_decide_eq_false h; omega
      subst h4
      have hs : ru 0 [] b = out := by rw [heq]; simp [ru]
      rw [unR_ref, hs]
      have hlo : out.length ≤ b.length := ho
      refine PW.exit ?_
      refine PW.give [0, 4] [(0, .slice (bs b) b.length false), (4, .slice (bs out) out.length false)] hkept ⟨rfl, Frz.slice (bs_still _), rfl, Frz.acc hacc (bs_still _), trivial⟩ ?_
      clear hacc hkept ih heq
      refine PW.seq ?_; refine PW.rg rfl fun K hK => ?_; simp (disch := omega) only [go_sem, ↓reduceIte, reduceCtorEq, pappend, plen]; refine VC.call (escape_ref out false _ (by omega)) rfl rfl ?_; simp (disch := omega) only [go_sem, ↓reduceIte, reduceCtorEq, pappend, plen]; refine hK _ _ ?_; clear hK K
      rcases escR_cases out with he | he
      · rw [he]
        refine PW.seq (PW.seq ?_); refine PW.rg rfl fun K hK => ?_; simp (disch := omega) only [go_sem, ↓reduceIte, reduceCtorEq, pappend, plen]; refine hK _ _ ?_; clear hK K
        refine PW.cond (t := _) rfl (fun _ => ?_) (fun h => by cases h)
        refine PW.seq ?_; refine PW.rg rfl fun K hK => ?_; simp (disch := omega) only [go_sem, ↓reduceIte, reduceCtorEq, pappend, plen]; refine hK _ _ ?_; clear hK K
        exact PW.ret ⟨_, rfl, Fin.give (Kept.refl H) (Frz.tup2 (Frz.slice (bs_still [])) ((Still.int _ _).frz _ _))⟩
      · rw [he]
        refine PW.seq (PW.seq ?_); refine PW.rg rfl fun K hK => ?_; simp (disch := omega) only [go_sem, ↓reduceIte, reduceCtorEq, pappend, plen]; refine VC.call (same_ok b (esc out) false false _) rfl rfl ?_; simp (disch := omega) only [go_sem, ↓reduceIte, reduceCtorEq, pappend, plen]; refine hK _ _ ?_; clear hK K
        refine PW.cond (t := _) rfl (fun h => ?_) (fun h => ?_)
        · have h7 : b ≠ esc out := by simpa using h
          rw [if_pos (.inr h7)]
          refine PW.seq ?_; refine PW.rg rfl fun K hK => ?_; simp (disch := omega) only [go_sem, ↓reduceIte, reduceCtorEq, pappend, plen]; refine hK _ _ ?_; clear hK K
          exact PW.ret ⟨_, rfl, Fin.give (Kept.refl H) (Frz.tup2 (Frz.slice (bs_still [])) ((Still.int _ _).frz _ _))⟩
        · have h7 : b = esc out := by simpa using h
          rw [if_neg (by simp [← h7])]
          refine PW.skip (PW.seq ?_); refine PW.rg rfl fun K hK => ?_; simp (disch := omega) only [go_sem, ↓reduceIte, reduceCtorEq, pappend, plen]; refine hK _ _ ?_; clear hK K
          exact PW.ret ⟨_, rfl, Fin.give (Kept.refl H) (Frz.tup2 (Frz.slice (bs_still _)) ((Still.int _ _).frz _ _))⟩

theorem unR_len (b : List UInt8) : (unR b).1.length ≤ b.length := by
  rw [unR_ref]
  split
  · simp
  · have := ru_len b [] 0; simpa using this

theorem law_unescape (p : List UInt8) (full : Bool) (H : Heap) :
    CallOk Try.prog 6 [.slice (bs p) p.length full] H (.bool true) H := by
  refine CallOk.body (F0 := [(0, .slice (bs p) p.length full)]) Try.func6 rfl Try.ntmps6 Try.results6 rfl (by kernel_rfl) rfl ?_
  refine PW.seq ?_; refine PW.rg rfl fun K hK => ?_; simp (disch := omega) only [go_sem, ↓reduceIte, reduceCtorEq, pappend, plen]; refine hK _ _ ?_; clear hK K
  refine PW.seq (PW.seq ?_); refine PW.rg rfl fun K hK => ?_; simp (disch := omega) only [go_sem, ↓reduceIte, reduceCtorEq, pappend, plen, length_bs]; refine hK _ _ ?_; clear hK K
  refine PW.cond (t := _) rfl (fun h => ?_) (fun h => ?_)
  · refine PW.seq ?_; refine PW.rg rfl fun K hK => ?_; simp (disch := omega) only [go_sem, ↓reduceIte, reduceCtorEq, pappend, plen]; refine hK _ _ ?_; clear hK K
    exact PW.ret ⟨_, rfl, Fin.give (Kept.refl H) ((Still.bool _).frz _ _)⟩
  have hl : p.length ≤ 2000 := by have := of_decide_eq_false h; omega
  refine PW.skip (PW.seq ?_); refine PW.rg rfl fun K hK => ?_; simp (disch := omega) only [go_sem, ↓reduceIte, reduceCtorEq, pappend, plen]; refine VC.call (unescape_ok p full _ (by omega)) rfl rfl ?_; simp (disch := omega) only [go_sem, ↓reduceIte, reduceCtorEq, pappend, plen]; refine hK _ _ ?_; clear hK K
  refine PW.seq ?_; refine PW.rg rfl fun K hK => ?_; simp (disch := omega) only [go_sem, ↓reduceIte, reduceCtorEq, pappend, plen]; refine VC.call (unescape_ref p full _ (by omega)) rfl rfl ?_; simp (disch := omega) only [go_sem, ↓reduceIte, reduceCtorEq, pappend, plen]; refine hK _ _ ?_; clear hK K
  refine PW.seq (PW.seq ?_); refine PW.rg rfl fun K hK => ?_; simp (disch := omega) only [go_sem, ↓reduceIte, reduceCtorEq, pappend, plen]; refine VC.call (same_ok _ _ _ _ _) rfl rfl ?_; simp (disch := omega) only [go_sem, ↓reduceIte, reduceCtorEq, pappend, plen]; refine hK _ _ ?_; clear hK K
  refine PW.cond (t := _) rfl (fun h => by cases h) (fun _ => ?_)
  rcases unR_cases p with he | ⟨q, he⟩
  · refine PW.skip (PW.seq (PW.seq ?_)); rw [he]; refine PW.rg rfl fun K hK => ?_; simp (disch := omega) only [go_sem, ↓reduceIte, reduceCtorEq, pappend, plen]; refine hK _ _ ?_; clear hK K
    refine PW.cond (t := _) rfl (fun _ => ?_) (fun h => by cases h)
    refine PW.seq ?_; refine PW.rg rfl fun K hK => ?_; simp (disch := omega) only [go_sem, ↓reduceIte, reduceCtorEq, pappend, plen]; refine VC.call (awake_ok _) rfl rfl ?_; simp (disch := omega) only [go_sem, ↓reduceIte, reduceCtorEq, pappend, plen]; refine hK _ _ ?_; clear hK K
    exact PW.ret ⟨_, rfl, Fin.give (Kept.refl H) ((Still.bool _).frz _ _)⟩
  · have hlen := unR_len p
    refine PW.skip (PW.seq (PW.seq ?_)); rw [he] at hlen ⊢; refine PW.rg rfl fun K hK => ?_; simp (disch := omega) only [go_sem, ↓reduceIte, reduceCtorEq, pappend, plen]; refine hK _ _ ?_; clear hK K
    refine PW.cond (t := _) rfl (fun h => by cases h) (fun _ => ?_)
    have hu : escR q = (p, 0) := escR_unR he
    refine PW.skip (PW.seq ?_); refine PW.rg rfl fun K hK => ?_; simp (disch := omega) only [go_sem, ↓reduceIte, reduceCtorEq, pappend, plen]; refine VC.call (escape_ok q false _ (by simp at hlen; omega)) rfl rfl ?_; rw [hu]; simp (disch := omega) only [go_sem, ↓reduceIte, reduceCtorEq, pappend, plen]; refine hK _ _ ?_; clear hK K
    refine PW.seq ?_; refine PW.rg rfl fun K hK => ?_; simp (disch := omega) only [go_sem, ↓reduceIte, reduceCtorEq, pappend, plen]; refine VC.call (awake_ok _) rfl rfl ?_; simp (disch := omega) only [go_sem, ↓reduceIte, reduceCtorEq, pappend, plen]; refine VC.call (same_ok p p full false _) rfl rfl ?_; simp (disch := omega) only [go_sem, ↓reduceIte, reduceCtorEq, pappend, plen]; refine hK _ _ ?_; clear hK K
    exact PW.ret ⟨_, rfl, Fin.give (Kept.refl H) ((Still.bool _).frz _ _)⟩

end Go.Proofs.Ytdeehmdkpdgpfaa.Sc
