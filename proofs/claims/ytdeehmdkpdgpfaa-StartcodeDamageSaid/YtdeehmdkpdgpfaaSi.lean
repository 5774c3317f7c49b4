/-
  Contracts of chapter 3: trim, the reference's next and clean; both Split.
-/
import Derived.Test.YtdeehmdkpdgpfaaSh
namespace Go.Proofs.Ytdeehmdkpdgpfaa.Sc
set_option linter.all false
set_option linter.unusedVariables false
set_option linter.unusedSimpArgs false
open Pm Ty Go.RowKit

/-! ### the model -/
def trm (b : List UInt8) (lo : Nat) : Nat → Nat
  | 0 => 0
  | k + 1 => if lo ≤ k ∧ byt b k = 0 then trm b lo k else k + 1
theorem trm_le (b : List UInt8) (lo : Nat) : ∀ k, trm b lo k ≤ k
  | 0 => Nat.le_refl _
  | k + 1 => by rw [trm]; split; have := trm_le b lo k; omega; omega
theorem trm_ge (b : List UInt8) (lo : Nat) : ∀ k, lo ≤ k → lo ≤ trm b lo k
  | 0, h => h
  | k + 1, h => by
    rw [trm]
    split
    · exact trm_ge b lo k (by omega)
    · exact h
theorem trm_step (b : List UInt8) (lo k : Nat) (h : lo < k ∧ byt b (k - 1) = 0) : trm b lo k = trm b lo (k - 1) := by
  obtain ⟨j, rfl⟩ : ∃ j, k = j + 1 := ⟨k - 1, by omega⟩
  rw [trm, if_pos ⟨by omega, h.2⟩]
  rfl
theorem trm_stop (b : List UInt8) (lo k : Nat) (h : ¬ (lo < k ∧ byt b (k - 1) = 0)) : trm b lo k = k := by
  cases k with
  | zero => rfl
  | succ k => rw [trm, if_neg (fun hh => h ⟨by omega, hh.2⟩)]
theorem nxt_le (p : List UInt8) (i : Nat) : nxt p i ≤ p.length := by
  induction hm : p.length - i using Nat.strongRecOn generalizing i with
  | _ n ih =>
    rw [nxt]
    split
    · split
      · omega
      · exact ih (p.length - (i + 1)) (by omega) (i + 1) rfl
    · exact Nat.le_refl _
theorem nxt_ge (p : List UInt8) (i : Nat) (h : i ≤ p.length) : i ≤ nxt p i := by
  induction hm : p.length - i using Nat.strongRecOn generalizing i with
  | _ n ih =>
    rw [nxt]
    split
    · split
      · exact Nat.le_refl _
      · have := ih (p.length - (i + 1)) (by omega) (i + 1) (by omega) rfl; omega
    · exact h
theorem nxt_room (p : List UInt8) (i : Nat) (h : nxt p i < p.length) : nxt p i + 4 ≤ p.length := by
  induction hm : p.length - i using Nat.strongRecOn generalizing i with
  | _ n ih =>
    rw [nxt] at h ⊢
    split
    · rename_i h4
      rw [if_pos h4] at h
      split
      · exact h4
      · rename_i hc
        rw [if_neg hc] at h
        exact ih (p.length - (i + 1)) (by omega) (i + 1) h rfl
    · rename_i h4
      rw [if_neg h4] at h
      omega
def part (b : List UInt8) (i j : Nat) : List UInt8 := (b.drop i).take (j - i)
theorem part_len (b : List UInt8) (i j : Nat) (h : j ≤ b.length) : (part b i j).length = j - i := by simp [part]; omega
theorem bs_part (b : List UInt8) (i j : Nat) : ((bs b).drop i).take (j - i) = bs (part b i j) := by simp [bs, part]

structure Fnd where
  t : Int
  p : List UInt8
  fr : Nat
  to : Nat
  nx : Nat
def fd (x : Fnd) : List PV := [.int .i64 x.t, bv x.p, .int .i64 x.fr, .int .i64 x.to, .int .i64 x.nx]
def fc (l : List Fnd) : List PV := l.flatMap fd
def dd (x : Nat × Nat) : List PV := [.int .i64 x.1, .int .i64 x.2]
def dc (l : List (Nat × Nat)) : List PV := l.flatMap dd
theorem fc_append (l m : List Fnd) : fc (l ++ m) = fc l ++ fc m := by simp [fc]
theorem dc_append (l m : List (Nat × Nat)) : dc (l ++ m) = dc l ++ dc m := by simp [dc]
theorem bv_still (p : List UInt8) : Still (bv p) := Still.slice (bs_still p)
theorem fc_still (l : List Fnd) : ∀ x ∈ fc l, Still x := fun x hx => by
  obtain ⟨u, _, hu⟩ := List.mem_flatMap.1 hx
  simp only [fd, List.mem_cons, List.not_mem_nil, or_false] at hu
  rcases hu with rfl | rfl | rfl | rfl | rfl
  · exact .int _ _
  · exact bv_still _
  all_goals exact .int _ _
theorem dc_still (l : List (Nat × Nat)) : ∀ x ∈ dc l, Still x := fun x hx => by
  obtain ⟨u, _, hu⟩ := List.mem_flatMap.1 hx
  simp only [dd, List.mem_cons, List.not_mem_nil, or_false] at hu
  rcases hu with rfl | rfl
  all_goals exact .int _ _

def splF (b : List UInt8) : Nat → Nat → List Fnd → List (Nat × Nat) → List Fnd × List (Nat × Nat)
  | 0, _, us, ds => (us, ds)
  | n + 1, i, us, ds =>
    if i < b.length then
      if (unR (part b (i + 4) (trm b (i + 4) (nxt b (i + 4))))).2 = 0 then
        splF b n (nxt b (i + 4)) (us ++ [⟨byt b (i + 3), (unR (part b (i + 4) (trm b (i + 4) (nxt b (i + 4))))).1, i, trm b (i + 4) (nxt b (i + 4)), nxt b (i + 4)⟩]) ds
      else splF b n (nxt b (i + 4)) us (ds ++ [(i, trm b (i + 4) (nxt b (i + 4)))])
    else (us, ds)
def spl (b : List UInt8) : List Fnd × List (Nat × Nat) := splF b (b.length + 1) (nxt b 0) [] (if 0 < trm b 0 (nxt b 0) then [(0, nxt b 0)] else [])

theorem trim_ok (b : List UInt8) (full : Bool) (lo hi : Nat) (H : Heap) (hl : b.length ≤ 1000000) (hi' : hi ≤ b.length) (hlo : lo ≤ 1000010) :
    CallOk Try.prog 27 [.slice (bs b) b.length full, .int .i64 (lo : Int), .int .i64 (hi : Int)] H (.int .i64 (trm b lo hi : Int)) H := by
  generalize hr : trm b lo hi = r
  refine CallOk.body (F0 := [(0, .slice (bs b) b.length full), (1, .int .i64 (lo : Int)), (2, .int .i64 (hi : Int))]) Try.func27 rfl Try.ntmps27 Try.results27 rfl (by kernel_rfl) rfl ?_
  refine PW.seq ?_; refine PW.rg rfl fun K hK => ?_; simp (disch := omega) only [go_sem, ↓reduceIte, reduceCtorEq, pappend, plen]; refine hK _ _ ?_; clear hK K
  refine PW.seq (PW.block (PW.loop ?_))
  refine PL.keep [0, 1, 2] (?_ : PL _ _ _ [(0, .slice (bs b) b.length full), (1, .int .i64 (lo : Int)), (2, .int .i64 (hi : Int))] _ _)
  induction hm : hi using Nat.strongRecOn generalizing hi with
  | _ n ih =>
    subst hm
    refine PL.round (PW.seq (PW.seq (PW.rg1 [0, 1, 2, 17] [(0, .slice (bs b) b.length full), (1, .int .i64 (lo : Int)), (2, .int .i64 (hi : Int)), (17, .bool (decide (lo < hi ∧ byt b (hi - 1) = 0)))] H rfl ?_ ?_)))
    · by_cases h1 : lo < hi
      · have e : ((hi : Int) - 1) = ((hi - 1 : Nat) : Int) := by omega
        simp (disch := omega) only [go_sem, ↓reduceIte, reduceCtorEq, pappend, plen, length_bs, bs_get, e]
        try simp [h1]
        rw [Bool.eq_iff_iff]; simp
      · simp (disch := omega) only [go_sem, ↓reduceIte, reduceCtorEq, pappend, plen, length_bs, bs_get]
        try simp [h1]
    refine PW.cond (t := _) rfl (fun h => ?_) (fun h => ?_)
    · have h4 := of_decide_eq_true h
      refine PW.skip (PW.block ?_); refine PW.rg rfl fun K hK => ?_; simp (disch := omega) only [go_sem, ↓reduceIte, reduceCtorEq, pappend, plen]; refine hK _ _ ?_; clear hK K
      refine PL.keep [0, 1, 2] ?_
      have e : ((hi : Int) - 1) = ((hi - 1 : Nat) : Int) := by omega
      have := ih (hi - 1) (by omega) (hi - 1) (by omega) (by rw [← hr, trm_step b lo hi h4]) rfl
      rw [← e] at this
      exact this
    · have h4 := of_decide_eq_false h
      rw [trm_stop b lo hi h4] at hr
      subst hr
      refine PW.exit (PW.seq ?_); refine PW.rg rfl fun K hK => ?_; simp (disch := omega) only [go_sem, ↓reduceIte, reduceCtorEq, pappend, plen]; refine hK _ _ ?_; clear hK K
      exact PW.ret ⟨_, rfl, .inl ⟨rfl, rfl⟩⟩

theorem next_ref (p : List UInt8) (full : Bool) (i : Nat) (H : Heap) (hl : p.length ≤ 1000000) (hi : i ≤ 1000010) : CallOk Try.prog 28 [.slice (bs p) p.length full, .int .i64 (i : Int)] H (.int .i64 (nxt p i : Int)) H := by
  generalize hr : nxt p i = r
  refine CallOk.body (F0 := [(0, .slice (bs p) p.length full), (1, .int .i64 (i : Int))]) Try.func28 rfl Try.ntmps28 Try.results28 rfl (by kernel_rfl) rfl ?_
  refine PW.seq ?_; refine PW.rg rfl fun K hK => ?_; simp (disch := omega) only [go_sem, ↓reduceIte, reduceCtorEq, pappend, plen]; refine hK _ _ ?_; clear hK K
  refine PW.seq (PW.block (PW.loop ?_))
  refine PL.keep [0, 1] (?_ : PL _ _ _ [(0, .slice (bs p) p.length full), (1, .int .i64 (i : Int))] _ _)
  induction hm : p.length - i using Nat.strongRecOn generalizing i with
  | _ n ih =>
    refine PL.round (PW.seq (PW.seq ?_)); refine PW.rg rfl fun K hK => ?_; simp (disch := omega) only [go_sem, ↓reduceIte, reduceCtorEq, pappend, plen]; refine hK _ _ ?_; clear hK K
    refine PW.cond (t := _) rfl (fun h => ?_) (fun h => ?_)
    · have h4 : i + 4 ≤ p.length := by have := of_decide_eq_true h; omega
      refine PW.skip (PW.seq (PW.block (PW.seq ?_)))
      refine PW.rg1 [0, 1, 40] [(0, .slice (bs p) p.length full), (1, .int .i64 (i : Int)), (40, .bool (code p i))] H rfl ?_ ?_
      · by_cases h1 : byt p i = 0 <;> by_cases h2 : byt p (i + 1) = 0 <;> by_cases h3 : byt p (i + 2) = 1
        all_goals simp (disch := omega) only [go_sem, ↓reduceIte, reduceCtorEq, pappend, plen, length_bs, bs_get]
        all_goals simp [code, h1, h2, h3]
      refine PW.cond (t := _) rfl (fun h => ?_) (fun h => ?_)
      · refine PW.seq ?_; refine PW.rg rfl fun K hK => ?_; simp (disch := omega) only [go_sem, ↓reduceIte, reduceCtorEq, pappend, plen]; refine hK _ _ ?_; clear hK K
        refine PW.ret ⟨_, rfl, .inl ⟨?_, rfl⟩⟩
        rw [← hr, nxt, if_pos h4, if_pos h]; rfl
      · refine PW.skip ?_
        refine PW.rg rfl fun K hK => ?_; simp (disch := omega) only [go_sem, ↓reduceIte, reduceCtorEq, pappend, plen]; refine hK _ _ ?_; clear hK K
        refine PL.keep [0, 1] ?_
        refine ih (p.length - (i + 1)) (by omega) (i + 1) (by omega) ?_ rfl
        rw [← hr, nxt.eq_def p i, if_pos h4, if_neg (by simp [h])]
    · have h4 : ¬ i + 4 ≤ p.length := by have := of_decide_eq_false h; omega
      refine PW.exit (PW.seq ?_); refine PW.rg rfl fun K hK => ?_; simp (disch := omega) only [go_sem, ↓reduceIte, reduceCtorEq, pappend, plen]; refine hK _ _ ?_; clear hK K
      refine PW.ret ⟨_, rfl, .inl ⟨?_, rfl⟩⟩
      rw [← hr, nxt, if_neg h4]; rfl

def zeros (b : List UInt8) : Bool := b.all fun c => c.toNat == 0
theorem clean_ok (b : List UInt8) (full : Bool) (H : Heap) (hl : b.length ≤ 1000000) : CallOk Try.prog 29 [.slice (bs b) b.length full] H (.bool (zeros b)) H := by
  refine CallOk.body (F0 := [(0, .slice (bs b) b.length full)]) Try.func29 rfl Try.ntmps29 Try.results29 rfl (by kernel_rfl) rfl ?_
  refine PW.seq ?_; refine PW.rg rfl fun K hK => ?_; simp (disch := omega) only [go_sem, ↓reduceIte, reduceCtorEq, pappend, plen]; refine hK _ _ ?_; clear hK K
  refine PW.seq (PW.seq ?_); refine PW.rg rfl fun K hK => ?_; simp (disch := omega) only [go_sem, ↓reduceIte, reduceCtorEq, pappend, plen]; refine hK _ _ ?_; clear hK K
  refine PW.block (PW.loop ?_)
  suffices hloop : ∀ (k : Nat), k ≤ b.length → zeros b = zeros (b.drop k) → PL Try.prog _ _ [(0, .slice (bs b) b.length full), (3, .int .i64 (k : Int))] H _ by
    exact PL.keep [0, 3] (hloop 0 (Nat.zero_le _) rfl)
  intro k hk heq
  induction hm : b.length - k using Nat.strongRecOn generalizing k with
  | _ n ih =>
    refine PL.round (PW.seq (PW.seq ?_)); refine PW.rg rfl fun K hK => ?_; simp (disch := omega) only [go_sem, ↓reduceIte, reduceCtorEq, pappend, plen, length_bs]; refine hK _ _ ?_; clear hK K
    refine PW.cond (t := _) rfl (fun h => ?_) (fun h => ?_)
    · have h4 : k < b.length := by have := of_decide_eq_true h; omega
      have hc : byt b k = ((b.getD k 0).toNat : Int) := rfl
      have hz : zeros (b.drop k) = ((b.getD k 0).toNat == 0 && zeros (b.drop (k + 1))) := by rw [drop_cons' b k h4]; rfl
      refine PW.skip (PW.seq (PW.block (PW.seq ?_))); refine PW.rg rfl fun K hK => ?_; simp (disch := omega) only [go_sem, ↓reduceIte, reduceCtorEq, pappend, plen, length_bs, bs_get]; refine hK _ _ ?_; clear hK K
      refine PW.cond (t := _) rfl (fun h => ?_) (fun h => ?_)
      · have h5 : ¬ (b.getD k 0).toNat = 0 := by have : byt b k ≠ 0 := by simpa using h
                                                 omega
        refine PW.seq ?_; refine PW.rg rfl fun K hK => ?_; simp (disch := omega) only [go_sem, ↓reduceIte, reduceCtorEq, pappend, plen]; refine hK _ _ ?_; clear hK K
        refine PW.ret ⟨_, rfl, .inl ⟨?_, rfl⟩⟩
        rw [heq, hz]
        have h6 : ((b.getD k 0).toNat == 0) = false := by simpa using h5
        rw [h6]; rfl
      · have h5 : (b.getD k 0).toNat = 0 := by have : byt b k = 0 := by simpa using h
                                               omega
        refine PW.skip ?_; refine PW.rg rfl fun K hK => ?_; simp (disch := omega) only [go_sem, ↓reduceIte, reduceCtorEq, pappend, plen]; refine hK _ _ ?_; clear hK K
        refine PL.keep [0, 3] ?_
        refine ih (b.length - (k + 1)) (by omega) (k + 1) (by omega) ?_ rfl
        rw [heq, hz, h5]; rfl
    · have h4 : k = b.length := by have := of_decide_eq_false h; omega
      subst h4
      refine PW.exit (PW.seq ?_); refine PW.rg rfl fun K hK => ?_; simp (disch := omega) only [go_sem, ↓reduceIte, reduceCtorEq, pappend, plen]; refine hK _ _ ?_; clear hK K
      refine PW.ret ⟨_, rfl, .inl ⟨?_, rfl⟩⟩
      rw [heq]; simp [zeros, slot, Nat.beq]
theorem zeros_trm (b : List UInt8) : ∀ k, k ≤ b.length → (zeros (b.take k) = true ↔ trm b 0 k = 0)
  | 0, _ => by simp [zeros, trm]
  | k + 1, h => by
    have e : b.take (k + 1) = b.take k ++ [b.getD k 0] := take_succ_byte b k (by omega)
    have ih := zeros_trm b k (by omega)
    have hc : byt b k = ((b.getD k 0).toNat : Int) := rfl
    have hz : zeros (b.take (k + 1)) = (zeros (b.take k) && (b.getD k 0).toNat == 0) := by rw [e]; simp [zeros]
    rw [hz, trm]
    by_cases h0 : (b.getD k 0).toNat = 0
    · rw [if_pos ⟨by omega, by omega⟩, ← ih, h0]; simp
    · have h1 : ((b.getD k 0).toNat == 0) = false := by simpa using h0
      rw [if_neg (by omega), h1]; simp

end Go.Proofs.Ytdeehmdkpdgpfaa.Sc
