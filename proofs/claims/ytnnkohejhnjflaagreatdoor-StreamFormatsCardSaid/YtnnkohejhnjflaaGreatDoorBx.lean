/-
  Contracts of package bitio and of the reference of chapter 2: Payload, Bits.
-/
import Derived.Test.YtnnkohejhnjflaaGreatDoorBw
namespace Go.Proofs.YtnnkohejhnjflaaGreatDoor.Sc
set_option linter.all false
set_option linter.unusedVariables false
set_option linter.unusedSimpArgs false
open Pm Ty Go.RowKit

theorem hapL (H K : Heap) (i : Nat) (h : i < H.length) : (H ++ K)[i]? = H[i]? := List.getElem?_append_left h
theorem neww_ok (H : Heap) : CallOk Tryz.prog 31 [] H (.ptr H.length 0 0) (H ++ [⟨136, 0, [.slice [] 0 true, .int .i64 0]⟩]) := by
  refine CallOk.body (F0 := []) Tryz.func31 rfl Tryz.ntmps31 Tryz.results31 rfl (by kernel_rfl) rfl ?_
  (repeat refine PW.seq ?_); refine PW.rg rfl fun K hK => ?_; simp (maxSteps := 3000000) (disch := omega) only [go_sem, ↓reduceIte, reduceCtorEq, pappend, plen]; refine hK _ _ ?_; clear hK K; (repeat refine PW.seq ?_); refine PW.rg rfl fun K hK => ?_; simp (maxSteps := 3000000) (disch := omega) only [go_sem, ↓reduceIte, reduceCtorEq, pappend, plen]; refine hK _ _ ?_; clear hK K
  exact PW.ret ⟨_, rfl, Fin.now⟩
theorem shr128 (r : Nat) (h : r < 8) : 128 / 2 ^ r = 1 * 2 ^ (7 - r) := by
  have : r = 0 ∨ r = 1 ∨ r = 2 ∨ r = 3 ∨ r = 4 ∨ r = 5 ∨ r = 6 ∨ r = 7 := by omega
  rcases this with rfl | rfl | rfl | rfl | rfl | rfl | rfl | rfl <;> rfl
theorem pshr128 (k' : IntKind) (r : Nat) (h : r < 8) : pint .shr .u8 128 k' (r : Int) = some (.int .u8 ((2 ^ (7 - r) : Nat) : Int)) := by
  have := pshr_u8 k' 128 r (by omega)
  rw [shr128 r h, Nat.one_mul] at this
  exact this
theorem por1_u8 (V s : Nat) (h : V < 256) (hs : s < 8) (hz : V % 2 ^ (s + 1) = 0) : pint .or .u8 (V : Int) .u8 ((2 ^ s : Nat) : Int) = some (.int .u8 ((V + 2 ^ s : Nat) : Int)) := by
  have := por_u8 V s 1 h hs hz (by omega)
  rwa [Nat.one_mul] at this
theorem copied (l : List Bool) : splice (reps (l.length / 8 + 1) [.int .u8 0]) 0 ((bs (pk l)).take (min (pk l).length (l.length / 8 + 1) * 1)) = bs (roomy l) := by
  have hp := pk_len l
  have hr : reps (l.length / 8 + 1) [PV.int .u8 0] = List.replicate (l.length / 8 + 1) (.int .u8 0) := by
    generalize l.length / 8 + 1 = n
    induction n with
    | zero => rfl
    | succ n ih => rw [List.replicate_succ, ← ih]; simp [reps, List.replicate_succ]
  rw [hr, Nat.min_eq_left (by omega), Nat.mul_one, List.take_of_length_le (by rw [length_bs]; exact Nat.le_refl _)]
  unfold splice roomy
  rw [List.take_zero, List.nil_append, Nat.zero_add, length_bs, List.drop_replicate]
  split
  · rw [bs_append, show l.length / 8 + 1 - (pk l).length = 1 by omega]; rfl
  · rw [show l.length / 8 + 1 - (pk l).length = 0 by omega]; simp
theorem payload_ok (i j : Nat) (l : List Bool) (H : Heap) (hA : H[i]? = some (wA j l)) (hB : H[j]? = some (wB l)) (hl : l.length ≤ 1000000000) :
    CallOk Tryz.prog 37 [.ptr i 0 0] H (.slice (bs (pk (l ++ [true]))) (pk (l ++ [true])).length false) H := by
  have hi := (List.getElem?_eq_some_iff.1 hA).1
  have hj := (List.getElem?_eq_some_iff.1 hB).1
  have hpl := pk_len l
  have hrl := roomy_len l
  have hrb := roomy_byt l
  have hrs := roomy_set l true
  have hpk := pkN_lt l (l.length / 8)
  have hz := pkN_tail l (l.length / 8) (l.length % 8) (by omega) (Nat.mod_lt _ (by omega))
  rw [show 8 - l.length % 8 = 7 - l.length % 8 + 1 by omega] at hz
  have hr8 : l.length % 8 < 8 := Nat.mod_lt _ (by omega)
  have hcp := copied l
  have hpl1 : (pk (l ++ [true])).length = l.length / 8 + 1 := by rw [pk_len]; simp; omega
  refine CallOk.body (F0 := [(0, .ptr i 0 0)]) Tryz.func37 rfl Tryz.ntmps37 Tryz.results37 rfl (by kernel_rfl) rfl ?_
  (repeat refine PW.seq ?_); refine PW.rg rfl fun K hK => ?_; simp (maxSteps := 3000000) (disch := omega) only [go_sem, ↓reduceIte, reduceCtorEq, pappend, plen]; refine hK _ _ ?_; clear hK K; (repeat refine PW.seq ?_); refine PW.rg rfl fun K hK => ?_; simp (maxSteps := 3000000) (disch := omega) only [go_sem, ↓reduceIte, reduceCtorEq, pappend, plen, hA]; refine hK _ _ ?_; clear hK K
  (repeat refine PW.seq ?_); refine PW.cond (t := _) rfl (fun h => ?_) (fun h => ?_)
  · cases h
  refine PW.skip ?_
  obtain ⟨N, hN⟩ : ∃ N, N = l.length / 8 + 1 := ⟨_, rfl⟩
  rw [← hN] at hcp hrl hpl1
  have e5 : ((l.length / 8 : Nat) : Int) + 1 = (N : Int) := by omega
  (repeat refine PW.seq ?_); refine PW.rg rfl fun K hK => ?_; simp (maxSteps := 3000000) (disch := omega) only [go_sem, ↓reduceIte, reduceCtorEq, pappend, plen, hA, wA, tdiv8, e5]; refine hK _ _ ?_; clear hK K
  have hcl : (List.replicate N [PV.int .u8 0]).flatten.length = N := by simp
  refine PW.to [0, 3] [(0, .ptr i 0 0), (3, .msl H.length 0 0 N 1 true)] (H ++ [⟨5, 0, bs (roomy l)⟩]) ?_ ?_
  · (repeat refine PW.seq ?_); refine PW.rg rfl fun K hK => ?_; simp (maxSteps := 3000000) (disch := omega) only [go_sem, ↓reduceIte, reduceCtorEq, pappend, plen, hapL, hA, hB, wA, wB, length_bs, hcl]; refine hK _ _ ?_; clear hK K
    refine ⟨rfl, ?_⟩
    rw [← hcp]
    have htk : List.take (pk l).length (bs (pk l)) = bs (pk l) := List.take_of_length_le (by rw [length_bs]; exact Nat.le_refl _)
    simp [splice, reps, length_bs, htk]
  generalize hq : l.length / 8 = q at *
  generalize hp : pkN l q = v at *
  generalize hs : 7 - l.length % 8 = s at *
  have hsum : v + 2 ^ s < 256 := by
    have h3 : s = 0 ∨ s = 1 ∨ s = 2 ∨ s = 3 ∨ s = 4 ∨ s = 5 ∨ s = 6 ∨ s = 7 := by omega
    rcases h3 with h3 | h3 | h3 | h3 | h3 | h3 | h3 | h3
    all_goals (rw [h3] at hz ⊢; simp at hz ⊢; omega)
  (repeat refine PW.seq ?_); refine PW.draw mix (by kernel_rfl) fun K hK => ?_; simp (maxSteps := 3000000) (disch := omega) only [go_sem, ↓reduceIte, reduceCtorEq, pappend, plen, hapL, hA, wA, tdiv8, tmod8, length_bs, bs_get, hq, hs, hrb, pshr128, por1_u8, bs_setN]; refine hK _ _ ?_; clear hK K
  (repeat refine PW.seq ?_); refine PW.rg rfl fun K hK => ?_; simp (maxSteps := 3000000) (disch := omega) only [go_sem, ↓reduceIte, reduceCtorEq, pappend, plen]; refine hK _ _ ?_; clear hK K
  refine PW.ret ⟨_, rfl, ?_⟩
  simp only [slot, Nat.beq]
  rw [hpl1]
  have hrs' : (roomy l).set q (UInt8.ofNat (v + 2 ^ s)) = pk (l ++ [true]) := by rw [← hrs, show true.toNat = 1 from rfl, Nat.one_mul]
  rw [hrs']
  exact Fin.base (Fz.mslC (e := 5) (xs := bs (pk (l ++ [true]))) (Nat.le_refl _) (by simp) (by rw [length_bs, hpl1]; omega) (FzC.refl (bs_scoped _ _)))

end Go.Proofs.YtnnkohejhnjflaaGreatDoor.Sc
