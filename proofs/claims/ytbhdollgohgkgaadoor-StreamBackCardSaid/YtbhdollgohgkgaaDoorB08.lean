/-
  Parts of the proof. No condition.
-/
import Derived.Test.YtbhdollgohgkgaaDoorB06
namespace Go.Proofs.YtbhdollgohgkgaaDoor.Sc
set_option linter.all false
set_option linter.unusedVariables false
set_option linter.unusedSimpArgs false
open Pm Ty Go.RowKit

/-- Two blocks of a heap, set. -/
def two (H : Heap) (i j : Nat) (A B : Blk) : Heap := (H.set i A).set j B
theorem two_0 (H : Heap) (i j : Nat) (A B : Blk) (h : i < H.length ∧ i ≠ j) : (two H i j A B)[i]? = some A := by
  unfold two; rw [List.getElem?_set_ne (by omega)]; simp [h.1]
theorem two_1 (H : Heap) (i j : Nat) (A B : Blk) (h : j < H.length) : (two H i j A B)[j]? = some B := by
  unfold two; simp [h]
theorem two_s0 (H : Heap) (i j : Nat) (A B X : Blk) (h : i ≠ j) : (two H i j A B).set i X = two H i j X B := by
  unfold two; rw [List.set_comm _ _ (by omega), List.set_set]
theorem two_s1 (H : Heap) (i j : Nat) (A B X : Blk) : (two H i j A B).set j X = two H i j A X := by
  unfold two; rw [List.set_set]
theorem two_len (H : Heap) (i j : Nat) (A B : Blk) : (two H i j A B).length = H.length := by simp [two]
theorem set_self {H : Heap} {i : Nat} {A : Blk} (h : H[i]? = some A) : H.set i A = H := by
  apply List.ext_getElem?
  intro j
  rw [List.getElem?_set]
  split
  · rename_i e; subst e
    split
    · exact h.symm
    · rename_i hn; exact absurd (List.getElem?_eq_some_iff.1 h).1 hn
  · rfl
theorem two_self {H : Heap} {i j : Nat} {A B : Blk} (h : H[i]? = some A) (h' : H[j]? = some B) : two H i j A B = H := by
  unfold two; rw [set_self h, set_self h']

theorem tmod8 (x : Nat) : (x : Int).tmod 8 = ((x % 8 : Nat) : Int) := tmodN x 8
theorem tdiv8 (x : Nat) : (x : Int).tdiv 8 = ((x / 8 : Nat) : Int) := tdivN x 8
theorem bs_setN (b : List UInt8) (i n : Nat) (h : n < 256) : (bs b).set i (.int .u8 (n : Int)) = bs (b.set i (UInt8.ofNat n)) := by
  rw [← bs_set]; congr 2; simp; omega

/-- The bytes, once there is room for one bit more. -/
def roomy (L : List Bool) : List UInt8 := if L.length % 8 = 0 then pk L ++ [0] else pk L
theorem roomy_len (L : List Bool) : (roomy L).length = L.length / 8 + 1 := by
  unfold roomy; split
  · simp [pk_len]; omega
  · rw [pk_len]; omega
theorem pkN_zero (l : List Bool) (i : Nat) (h : l.length ≤ 8 * i) : pkN l i = 0 := by
  unfold pkN
  rw [bn_out l (8 * i) (by omega), bn_out l (8 * i + 1) (by omega), bn_out l (8 * i + 2) (by omega), bn_out l (8 * i + 3) (by omega), bn_out l (8 * i + 4) (by omega), bn_out l (8 * i + 5) (by omega), bn_out l (8 * i + 6) (by omega), bn_out l (8 * i + 7) (by omega)]
theorem roomy_byt (L : List Bool) : byt (roomy L) (L.length / 8) = (pkN L (L.length / 8) : Int) := by
  unfold roomy; split
  · rename_i h
    rw [pkN_zero L _ (by omega)]
    unfold byt
    simp only [List.getD]
    rw [List.getElem?_append_right (by rw [pk_len]; omega), pk_len, show L.length / 8 - (L.length + 7) / 8 = 0 by omega]
    rfl
  · exact pk_byt L _ (by omega)
theorem roomy_set (L : List Bool) (b : Bool) : (roomy L).set (L.length / 8) (UInt8.ofNat (pkN L (L.length / 8) + b.toNat * 2 ^ (7 - L.length % 8))) = pk (L ++ [b]) := by
  unfold roomy; split
  · rename_i h
    rw [pkN_zero L _ (by omega), h, pk_snoc0 L b (L.length / 8) (by omega), List.set_append_right _ _ (by rw [pk_len]; omega), pk_len, show L.length / 8 - (L.length + 7) / 8 = 0 by omega]
    simp
  · rename_i h
    rw [pk_snoc1 L b (L.length / 8) (L.length % 8) (by omega) (by omega) (by omega)]

def wA (j : Nat) (l : List Bool) : Blk := ⟨120, 0, [.msl j (bs (pk l)).length 0 (pk l).length 1 true, .int .i64 (l.length : Int)]⟩
def wB (l : List Bool) : Blk := ⟨5, (bs (pk l)).length, bs (pk l)⟩

theorem put_ok (i j : Nat) (l : List Bool) (V n : Nat) (H : Heap) (hA : H[i]? = some (wA j l)) (hB : H[j]? = some (wB l)) (hne : i ≠ j) (hn : n ≤ 32) (hV : V / 2 ^ n = 0) (hl : l.length ≤ 1000000000) :
    CallOk Tryd.prog 35 [.ptr i 0 0, .int .u32 (V : Int), .int .i64 (n : Int)] H (.int .i64 0) (two H i j (wA j (l ++ vbits V n)) (wB (l ++ vbits V n))) := by
  have hi := (List.getElem?_eq_some_iff.1 hA).1
  have hj := (List.getElem?_eq_some_iff.1 hB).1
  have hself := two_self hA hB
  refine CallOk.body (F0 := [(0, .ptr i 0 0), (1, .int .u32 (V : Int)), (2, .int .i64 (n : Int))]) Tryd.func35 rfl Tryd.ntmps35 Tryd.results35 rfl (by kernel_rfl) rfl ?_
  refine PW.eq rfl hself.symm ?_
  (repeat refine PW.seq ?_); refine PW.rg rfl fun K hK => ?_; simp (maxSteps := 3000000) (disch := omega) only [go_sem, ↓reduceIte, reduceCtorEq, pappend, plen]; refine hK _ _ ?_; clear hK K
  have e0 : ((V / 2 ^ n : Nat) : Int) = 0 := by rw [hV]; rfl
  (repeat' (first | refine PW.seq ?_ | refine PW.skip ?_ | refine PW.block ?_ | (refine PW.rg rfl fun K hK => ?_; simp (maxSteps := 3000000) (disch := omega) only [go_sem, ↓reduceIte, reduceCtorEq, pappend, plen, two_0, two_1, wA, pshr_u32, e0]) | (refine PW.draw mix (by kernel_rfl) fun K hK => ?_; simp (maxSteps := 3000000) (disch := omega) only [go_sem, ↓reduceIte, reduceCtorEq, pappend, plen, two_0, two_1, wA, pshr_u32, e0]) | (refine PW.drawg mix (by kernel_rfl) fun K hK => ?_; simp (maxSteps := 3000000) (disch := omega) only [go_sem, ↓reduceIte, reduceCtorEq, pappend, plen, two_0, two_1, wA, pshr_u32, e0]) | (refine PW.drawt [] [] mix (by kernel_rfl) fun K hK => ?_; simp (maxSteps := 3000000) (disch := omega) only [go_sem, ↓reduceIte, reduceCtorEq, pappend, plen, two_0, two_1, wA, pshr_u32, e0]) | ((first | refine VO_cond ?_ ?_ | refine VOd_cond ?_ ?_ | refine VOg_cond ?_ ?_ | refine VOh_cond ?_ ?_ | refine VOi_cond ?_ ?_ | refine And.intro ?_ ?_) <;> intro h <;> (try simp only [Bool.not_eq_true', Bool.not_eq_false', decide_eq_true_eq, decide_eq_false_iff_not] at h) <;> simp (maxSteps := 3000000) (disch := omega) only [go_sem, ↓reduceIte, reduceCtorEq, pappend, plen, two_0, two_1, wA, pshr_u32, e0, h]) | (refine hK _ _ ?_; clear hK K) | (refine PW.cond (t := _) rfl (fun h => ?_) (fun h => ?_) <;> (try (cases h; done)) <;> (try simp only [Bool.not_eq_true', Bool.not_eq_false', decide_eq_true_eq, decide_eq_false_iff_not] at h))))
  refine PW.loop ?_
  suffices hloop : ∀ (k : Nat) (L : List Bool), k ≤ n → L = l ++ (vbits V n).take k → PL Tryd.prog _ _ [(0, .ptr i 0 0), (1, .int .u32 (V : Int)), (2, .int .i64 (n : Int)), (23, .int .i64 (n : Int)), (24, .int .i64 (k : Int))] (two H i j (wA j L) (wB L)) _ by
    exact PL.at [0, 1, 2, 23, 24] (hloop 0 l (Nat.zero_le _) (by simp)) rfl rfl
  intro k L hk hL
  have hLl : L.length = l.length + k := by rw [hL, List.length_append, List.length_take, vbits_len]; omega
  induction hm : n - k using Nat.strongRecOn generalizing k L with
  | _ m ih =>
    refine PL.round ?_; (repeat refine PW.seq ?_); refine PW.rg rfl fun K hK => ?_; simp (maxSteps := 3000000) (disch := omega) only [go_sem, ↓reduceIte, reduceCtorEq, pappend, plen]; refine hK _ _ ?_; clear hK K
    (repeat refine PW.seq ?_); refine PW.cond (t := _) rfl (fun h => ?_) (fun h => ?_)
    · have h4 : k < n := by have := of_decide_eq_true h; omega
      have hsn : l ++ (vbits V n).take (k + 1) = L ++ [decide (V / 2 ^ (n - 1 - k) % 2 = 1)] := by rw [vbits_take V n k h4, hL, List.append_assoc]
      have hL1 : (L ++ [decide (V / 2 ^ (n - 1 - k) % 2 = 1)]).length = l.length + (k + 1) := by simp [hLl]; omega
      have hnext := ih (n - (k + 1)) (by omega) (k + 1) _ (by omega) hsn.symm hL1 rfl
      have hbt := bit_toNat (V / 2 ^ (n - 1 - k))
      have e1 : (n : Int) - 1 - (k : Int) = ((n - 1 - k : Nat) : Int) := by omega
      have hmd : V / 2 ^ (n - 1 - k) % 2 < 2 := Nat.mod_lt _ (by omega)
      refine PW.skip ?_; (repeat refine PW.seq ?_); refine PW.block ?_
      (repeat refine PW.seq ?_); refine PW.rg rfl fun K hK => ?_; simp (maxSteps := 3000000) (disch := omega) only [go_sem, ↓reduceIte, reduceCtorEq, pappend, plen]; refine hK _ _ ?_; clear hK K
      refine PW.to [0, 1, 2, 7, 23, 24] [(0, .ptr i 0 0), (1, .int .u32 (V : Int)), (2, .int .i64 (n : Int)), (7, .int .i64 (k : Int)), (23, .int .i64 (n : Int)), (24, .int .i64 (k : Int))]
        (two H i j ⟨120, 0, [.msl j (bs (roomy L)).length 0 (roomy L).length 1 true, .int .i64 (L.length : Int)]⟩ ⟨5, (bs (roomy L)).length, bs (roomy L)⟩) ?_ ?_
      · (repeat refine PW.seq ?_); refine PW.rg rfl fun K hK => ?_; simp (maxSteps := 3000000) (disch := omega) only [go_sem, ↓reduceIte, reduceCtorEq, pappend, plen, two_0, two_1, wA, tmod8]; refine hK _ _ ?_; clear hK K
        (repeat refine PW.seq ?_); refine PW.cond (t := _) rfl (fun h => ?_) (fun h => ?_)
        · have h5 : L.length % 8 = 0 := by simp at h; omega
          have hpl := pk_len L
          (repeat refine PW.seq ?_); refine PW.rg rfl fun K hK => ?_; simp (maxSteps := 3000000) (disch := omega) only [go_sem, ↓reduceIte, reduceCtorEq, pappend, plen, two_0, two_1, two_s0, two_s1, wA, wB, length_bs, two_len]; refine hK _ _ ?_; clear hK K
          have e2 : roomy L = pk L ++ [0] := by unfold roomy; rw [if_pos h5]
          refine ⟨by simp [kp, slot, Nat.beq], ?_⟩
          rw [e2, bs_append]
          simp [bs, length_bs]
        · have h5 : ¬ L.length % 8 = 0 := by simp at h; omega
          have e2 : roomy L = pk L := by unfold roomy; rw [if_neg h5]
          refine PW.skip ⟨by simp [kp, slot, Nat.beq], ?_⟩
          rw [e2]; rfl
      (repeat refine PW.seq ?_); refine PW.rg rfl fun K hK => ?_; simp (maxSteps := 3000000) (disch := omega) only [go_sem, ↓reduceIte, reduceCtorEq, pappend, plen, e1, pshr_u32, pand1_u32]; refine hK _ _ ?_; clear hK K
      have hrl := roomy_len L
      have hrb := roomy_byt L
      have hrs := roomy_set L (decide (V / 2 ^ (n - 1 - k) % 2 = 1))
      rw [hbt] at hrs
      have hpk := pkN_lt L (L.length / 8)
      have hz := pkN_tail L (L.length / 8) (L.length % 8) (by omega) (Nat.mod_lt _ (by omega))
      rw [show 8 - L.length % 8 = 7 - L.length % 8 + 1 by omega] at hz
      have hr8 : L.length % 8 < 8 := Nat.mod_lt _ (by omega)
      have e3 : (7 : Int) - ((L.length % 8 : Nat) : Int) = ((7 - L.length % 8 : Nat) : Int) := by omega
      generalize V / 2 ^ (n - 1 - k) % 2 = c at *
      generalize hq : L.length / 8 = q at *
      generalize hp : pkN L q = v at *
      generalize hs : 7 - L.length % 8 = s at *
      have hs7 : s < 8 := by omega
      have hsum : v + c * 2 ^ s < 256 := by
        have h2 : c * 2 ^ s ≤ 1 * 2 ^ s := Nat.mul_le_mul_right _ (by omega)
        have h3 : s = 0 ∨ s = 1 ∨ s = 2 ∨ s = 3 ∨ s = 4 ∨ s = 5 ∨ s = 6 ∨ s = 7 := by omega
        rcases h3 with h3 | h3 | h3 | h3 | h3 | h3 | h3 | h3
        all_goals (rw [h3] at hz h2 ⊢; simp at hz h2 ⊢; omega)
      have hsh : c * 2 ^ s < 256 := by omega
      (repeat refine PW.seq ?_); refine PW.draw mix (by kernel_rfl) fun K hK => ?_; simp (maxSteps := 3000000) (disch := omega) only [go_sem, ↓reduceIte, reduceCtorEq, pappend, plen, two_0, two_1, two_s0, two_s1, two_len, length_bs, tmod8, tdiv8, hq, hs, e3, bs_get, hrb, pshl_u8, por_u8, bs_setN]; refine hK _ _ ?_; clear hK K
      (repeat refine PW.seq ?_); refine PW.rg rfl fun K hK => ?_; simp (maxSteps := 3000000) (disch := omega) only [go_sem, ↓reduceIte, reduceCtorEq, pappend, plen, two_0, two_1, two_s0, two_s1, two_len]; refine hK _ _ ?_; clear hK K
      (repeat refine PW.seq ?_); refine PW.rg rfl fun K hK => ?_; simp (maxSteps := 3000000) (disch := omega) only [go_sem, ↓reduceIte, reduceCtorEq, pappend, plen]; refine hK _ _ ?_; clear hK K
      refine PL.at [0, 1, 2, 23, 24] hnext rfl ?_
      rw [wA, wB, ← hrs]
      simp [length_bs, List.length_set]
    · have h4 : k = n := by have := of_decide_eq_false h; omega
      subst h4
      rw [List.take_of_length_le (by rw [vbits_len]; exact Nat.le_refl _)] at hL
      refine PW.exit ?_
      (repeat refine PW.seq ?_); refine PW.rg rfl fun K hK => ?_; simp (maxSteps := 3000000) (disch := omega) only [go_sem, ↓reduceIte, reduceCtorEq, pappend, plen]; refine hK _ _ ?_; clear hK K
      subst hL
      exact PW.ret ⟨_, rfl, Fin.now⟩

end Go.Proofs.YtbhdollgohgkgaaDoor.Sc

namespace Go.Proofs.YtbhdollgohgkgaaDoor.Sc
set_option linter.all false
set_option linter.unusedVariables false
set_option linter.unusedSimpArgs false
open Pm Ty Go.RowKit

theorem hapL (H K : Heap) (i : Nat) (h : i < H.length) : (H ++ K)[i]? = H[i]? := List.getElem?_append_left h
theorem neww_ok (H : Heap) : CallOk Tryd.prog 34 [] H (.ptr H.length 0 0) (H ++ [⟨120, 0, [.slice [] 0 true, .int .i64 0]⟩]) := by
  refine CallOk.body (F0 := []) Tryd.func34 rfl Tryd.ntmps34 Tryd.results34 rfl (by kernel_rfl) rfl ?_
  (repeat refine PW.seq ?_); refine PW.rg rfl fun K hK => ?_; simp (maxSteps := 3000000) (disch := omega) only [go_sem, ↓reduceIte, reduceCtorEq, pappend, plen]; refine hK _ _ ?_; clear hK K; (repeat refine PW.seq ?_); refine PW.rg rfl fun K hK => ?_; simp (maxSteps := 3000000) (disch := omega) only [go_sem, ↓reduceIte, reduceCtorEq, pappend, plen]; refine hK _ _ ?_; clear hK K
  exact PW.ret ⟨_, rfl, Fin.now⟩
theorem shr128 (r : Nat) (h : r < 8) : 128 / 2 ^ r = 1 * 2 ^ (7 - r) := by
  have : r = 0 ∨ r = 1 ∨ r = 2 ∨ r = 3 ∨ r = 4 ∨ r = 5 ∨ r = 6 ∨ r = 7 := by omega
  rcases this with rfl | rfl | rfl | rfl | rfl | rfl | rfl | rfl <;> rfl
theorem pshr128 (k' : IntKind) (r : Nat) (h : r < 8) : pint .shr .u8 128 k' (r : Int) = some (.int .u8 ((2 ^ (7 - r) : Nat) : Int)) := by
  have := pshr_u8 k' 128 r (by omega)
  rw [shr128 r h, Nat.one_mul] at this
  exact this
theorem por1_u8 (V s : Nat) (h : V < 256) (hs : s < 8) (hz : V % 2 ^ (s + 1) = 0) : pint .or .u8 (V : Int) .u8 ((2 ^ s : Nat) : Int) = some (.int .u8 ((V + 2 ^ s : Nat) : Int)) := by
  have := por_u8 V s 1 h hs hz (by omega)
  rwa [Nat.one_mul] at this
theorem copied (l : List Bool) : splice (reps (l.length / 8 + 1) [.int .u8 0]) 0 ((bs (pk l)).take (min (pk l).length (l.length / 8 + 1) * 1)) = bs (roomy l) := by
  have hp := pk_len l
  have hr : reps (l.length / 8 + 1) [PV.int .u8 0] = List.replicate (l.length / 8 + 1) (.int .u8 0) := by
    generalize l.length / 8 + 1 = n
    induction n with
    | zero => rfl
    | succ n ih => rw [List.replicate_succ, ← ih]; simp [reps, List.replicate_succ]
  rw [hr, Nat.min_eq_left (by omega), Nat.mul_one, List.take_of_length_le (by rw [length_bs]; exact Nat.le_refl _)]
  unfold splice roomy
  rw [List.take_zero, List.nil_append, Nat.zero_add, length_bs, List.drop_replicate]
  split
  · rw [bs_append, show l.length / 8 + 1 - (pk l).length = 1 by omega]; rfl
  · rw [show l.length / 8 + 1 - (pk l).length = 0 by omega]; simp
theorem payload_ok (i j : Nat) (l : List Bool) (H : Heap) (hA : H[i]? = some (wA j l)) (hB : H[j]? = some (wB l)) (hl : l.length ≤ 1000000000) :
    CallOk Tryd.prog 40 [.ptr i 0 0] H (.slice (bs (pk (l ++ [true]))) (pk (l ++ [true])).length false) H := by
  have hi := (List.getElem?_eq_some_iff.1 hA).1
  have hj := (List.getElem?_eq_some_iff.1 hB).1
  have hpl := pk_len l
  have hrl := roomy_len l
  have hrb := roomy_byt l
  have hrs := roomy_set l true
  have hpk := pkN_lt l (l.length / 8)
  have hz := pkN_tail l (l.length / 8) (l.length % 8) (by omega) (Nat.mod_lt _ (by omega))
  rw [show 8 - l.length % 8 = 7 - l.length % 8 + 1 by omega] at hz
  have hr8 : l.length % 8 < 8 := Nat.mod_lt _ (by omega)
  have hcp := copied l
  have hpl1 : (pk (l ++ [true])).length = l.length / 8 + 1 := by rw [pk_len]; simp; omega
  refine CallOk.body (F0 := [(0, .ptr i 0 0)]) Tryd.func40 rfl Tryd.ntmps40 Tryd.results40 rfl (by kernel_rfl) rfl ?_
  (repeat refine PW.seq ?_); refine PW.rg rfl fun K hK => ?_; simp (maxSteps := 3000000) (disch := omega) only [go_sem, ↓reduceIte, reduceCtorEq, pappend, plen]; refine hK _ _ ?_; clear hK K; (repeat refine PW.seq ?_); refine PW.rg rfl fun K hK => ?_; simp (maxSteps := 3000000) (disch := omega) only [go_sem, ↓reduceIte, reduceCtorEq, pappend, plen, hA]; refine hK _ _ ?_; clear hK K
  (repeat refine PW.seq ?_); refine PW.cond (t := _) rfl (fun h => ?_) (fun h => ?_)
  · cases h
  refine PW.skip ?_
  obtain ⟨N, hN⟩ : ∃ N, N = l.length / 8 + 1 := ⟨_, rfl⟩
  rw [← hN] at hcp hrl hpl1
  have e5 : ((l.length / 8 : Nat) : Int) + 1 = (N : Int) := by omega
  (repeat refine PW.seq ?_); refine PW.rg rfl fun K hK => ?_; simp (maxSteps := 3000000) (disch := omega) only [go_sem, ↓reduceIte, reduceCtorEq, pappend, plen, hA, wA, tdiv8, e5]; refine hK _ _ ?_; clear hK K
  have hcl : (List.replicate N [PV.int .u8 0]).flatten.length = N := by simp
  refine PW.to [0, 3] [(0, .ptr i 0 0), (3, .msl H.length 0 0 N 1 true)] (H ++ [⟨5, 0, bs (roomy l)⟩]) ?_ ?_
  · (repeat refine PW.seq ?_); refine PW.rg rfl fun K hK => ?_; simp (maxSteps := 3000000) (disch := omega) only [go_sem, ↓reduceIte, reduceCtorEq, pappend, plen, hapL, hA, hB, wA, wB, length_bs, hcl]; refine hK _ _ ?_; clear hK K
    refine ⟨rfl, ?_⟩
    rw [← hcp]
    have htk : List.take (pk l).length (bs (pk l)) = bs (pk l) := List.take_of_length_le (by rw [length_bs]; exact Nat.le_refl _)
    simp [splice, reps, length_bs, htk]
  generalize hq : l.length / 8 = q at *
  generalize hp : pkN l q = v at *
  generalize hs : 7 - l.length % 8 = s at *
  have hsum : v + 2 ^ s < 256 := by
    have h3 : s = 0 ∨ s = 1 ∨ s = 2 ∨ s = 3 ∨ s = 4 ∨ s = 5 ∨ s = 6 ∨ s = 7 := by omega
    rcases h3 with h3 | h3 | h3 | h3 | h3 | h3 | h3 | h3
    all_goals (rw [h3] at hz ⊢; simp at hz ⊢; omega)
  (repeat refine PW.seq ?_); refine PW.draw mix (by kernel_rfl) fun K hK => ?_; simp (maxSteps := 3000000) (disch := omega) only [go_sem, ↓reduceIte, reduceCtorEq, pappend, plen, hapL, hA, wA, tdiv8, tmod8, length_bs, bs_get, hq, hs, hrb, pshr128, por1_u8, bs_setN]; refine hK _ _ ?_; clear hK K
  (repeat refine PW.seq ?_); refine PW.rg rfl fun K hK => ?_; simp (maxSteps := 3000000) (disch := omega) only [go_sem, ↓reduceIte, reduceCtorEq, pappend, plen]; refine hK _ _ ?_; clear hK K
  refine PW.ret ⟨_, rfl, ?_⟩
  simp only [slot, Nat.beq]
  rw [hpl1]
  have hrs' : (roomy l).set q (UInt8.ofNat (v + 2 ^ s)) = pk (l ++ [true]) := by rw [← hrs, show true.toNat = 1 from rfl, Nat.one_mul]
  rw [hrs']
  exact Fin.base (Fz.mslC (e := 5) (xs := bs (pk (l ++ [true]))) (Nat.le_refl _) (by simp) (by rw [length_bs, hpl1]; omega) (FzC.refl (bs_scoped _ _)))

end Go.Proofs.YtbhdollgohgkgaaDoor.Sc

namespace Go.Proofs.YtbhdollgohgkgaaDoor.Sc
set_option linter.all false
set_option linter.unusedVariables false
set_option linter.unusedSimpArgs false
open Pm Ty Go.RowKit

/-- Bits as bytes 0 and 1. -/
def zb (l : List Bool) : List UInt8 := l.map fun b => if b then 1 else 0
end Go.Proofs.YtbhdollgohgkgaaDoor.Sc

namespace Go.Proofs.YtbhdollgohgkgaaDoor.Sc
set_option linter.all false
set_option linter.unusedVariables false
set_option linter.unusedSimpArgs false
open Pm Ty Go.RowKit

/-- Bit k of some bytes. -/
def ubit (p : List UInt8) (k : Nat) : Nat := (p.getD (k / 8) 0).toNat / 2 ^ (7 - k % 8) % 2
theorem ubit_lt (p : List UInt8) (k : Nat) : ubit p k < 2 := Nat.mod_lt _ (by omega)
/-- The number of n bits from place a on. -/
def vl (p : List UInt8) (a : Nat) : Nat → Nat
  | 0 => 0
  | n + 1 => 2 * vl p a n + ubit p (a + n)
theorem vl_lt (p : List UInt8) (a : Nat) : ∀ n, vl p a n < 2 ^ n
  | 0 => by simp [vl]
  | n + 1 => by
    have h1 := vl_lt p a n
    have h2 := ubit_lt p (a + n)
    rw [vl, Nat.pow_succ]
    omega
theorem pshl1_u32 (k' : IntKind) (V : Nat) (h : 2 * V < 4294967296) : pint .shl .u32 (V : Int) k' 1 = some (.int .u32 ((2 * V : Nat) : Int)) := by
  simp only [pint, IntKind.bits]
  rw [if_neg (by omega), show min (1 : Int).toNat 32 = 1 from rfl, show (V : Int) * (2 : Int) ^ 1 = ((2 * V : Nat) : Int) by omega, w32 _ (by omega)]
theorem or_even (a b : Nat) (hb : b < 2) : 2 * a ||| b = 2 * a + b := by
  have h1 : 2 * a = a <<< 1 := by rw [Nat.shiftLeft_eq]; omega
  rw [h1, Nat.shiftLeft_add_eq_or_of_lt (by simpa using hb)]
theorem por_u32 (a b : Nat) (hb : b < 2) (h : 2 * a < 4294967296) : pint .or .u32 ((2 * a : Nat) : Int) .u32 (b : Int) = some (.int .u32 ((2 * a + b : Nat) : Int)) := by
  have key0 : (BitVec.ofInt 32 ((2 * a : Nat) : Int) ||| BitVec.ofInt 32 (b : Int)).toNat = 2 * a + b := by
    rw [BitVec.ofInt_natCast, BitVec.ofInt_natCast, BitVec.toNat_or, BitVec.toNat_ofNat, BitVec.toNat_ofNat, Nat.mod_eq_of_lt (by omega), Nat.mod_eq_of_lt (by omega)]
    exact or_even a b hb
  have key : (BitVec.ofInt IntKind.u32.bits ((2 * a : Nat) : Int) ||| BitVec.ofInt IntKind.u32.bits (b : Int)).toNat = 2 * a + b := key0
  simp only [pint, key, if_true]
  rw [w32 _ (by omega)]

/-- A reader: its bytes, its number of bits, its place. -/
def rA (p : List UInt8) (n a : Nat) : Blk := ⟨144, 0, [.slice (bs p) p.length false, .int .i64 (n : Int), .int .i64 (a : Int)]⟩

theorem rleft_ok (i : Nat) (p : List UInt8) (n a : Nat) (H : Heap) (hA : H[i]? = some (rA p n a)) (ha : a ≤ n) (hn : n ≤ 1000000000) : CallOk Tryd.prog 68 [.ptr i 0 0] H (.int .i64 ((n - a : Nat) : Int)) H := by
  have e : (n : Int) - (a : Int) = ((n - a : Nat) : Int) := by omega
  refine CallOk.body (F0 := [(0, .ptr i 0 0)]) Tryd.func68 rfl Tryd.ntmps68 Tryd.results68 rfl (by kernel_rfl) rfl ?_
  (repeat' (first | refine PW.seq ?_ | refine PW.skip ?_ | refine PW.block ?_ | (refine PW.rg rfl fun K hK => ?_; simp (maxSteps := 3000000) (disch := omega) only [go_sem, ↓reduceIte, reduceCtorEq, pappend, plen, hA, rA, e]) | (refine PW.draw mix (by kernel_rfl) fun K hK => ?_; simp (maxSteps := 3000000) (disch := omega) only [go_sem, ↓reduceIte, reduceCtorEq, pappend, plen, hA, rA, e]) | (refine PW.drawg mix (by kernel_rfl) fun K hK => ?_; simp (maxSteps := 3000000) (disch := omega) only [go_sem, ↓reduceIte, reduceCtorEq, pappend, plen, hA, rA, e]) | (refine PW.drawt [] [] mix (by kernel_rfl) fun K hK => ?_; simp (maxSteps := 3000000) (disch := omega) only [go_sem, ↓reduceIte, reduceCtorEq, pappend, plen, hA, rA, e]) | ((first | refine VO_cond ?_ ?_ | refine VOd_cond ?_ ?_ | refine VOg_cond ?_ ?_ | refine VOh_cond ?_ ?_ | refine VOi_cond ?_ ?_ | refine And.intro ?_ ?_) <;> intro h <;> (try simp only [Bool.not_eq_true', Bool.not_eq_false', decide_eq_true_eq, decide_eq_false_iff_not] at h) <;> simp (maxSteps := 3000000) (disch := omega) only [go_sem, ↓reduceIte, reduceCtorEq, pappend, plen, hA, rA, e, h]) | (refine hK _ _ ?_; clear hK K) | (refine PW.cond (t := _) rfl (fun h => ?_) (fun h => ?_) <;> (try (cases h; done)) <;> (try simp only [Bool.not_eq_true', Bool.not_eq_false', decide_eq_true_eq, decide_eq_false_iff_not] at h))))
  all_goals exact PW.ret ⟨_, rfl, Fin.now⟩

theorem rtake_short (i : Nat) (p : List UInt8) (n a m : Nat) (H : Heap) (hA : H[i]? = some (rA p n a)) (ha : a ≤ n) (hn : n ≤ 1000000000) (hm : m ≤ 32) (hs : n - a < m) :
    CallOk Tryd.prog 70 [.ptr i 0 0, .int .i64 (m : Int)] H (.tup [.int .u32 0, .int .i64 4]) H := by
  refine CallOk.body (F0 := [(0, .ptr i 0 0), (1, .int .i64 (m : Int))]) Tryd.func70 rfl Tryd.ntmps70 Tryd.results70 rfl (by kernel_rfl) rfl ?_
  (repeat' (first | refine PW.seq ?_ | refine PW.skip ?_ | refine PW.block ?_ | (refine PW.rg rfl fun K hK => ?_; simp (maxSteps := 3000000) (disch := omega) only [go_sem, ↓reduceIte, reduceCtorEq, pappend, plen, hA, rA]) | (refine PW.draw mix (by kernel_rfl) fun K hK => ?_; simp (maxSteps := 3000000) (disch := omega) only [go_sem, ↓reduceIte, reduceCtorEq, pappend, plen, hA, rA]) | (refine PW.drawg mix (by kernel_rfl) fun K hK => ?_; simp (maxSteps := 3000000) (disch := omega) only [go_sem, ↓reduceIte, reduceCtorEq, pappend, plen, hA, rA]) | (refine PW.drawt [] [] mix (by kernel_rfl) fun K hK => ?_; simp (maxSteps := 3000000) (disch := omega) only [go_sem, ↓reduceIte, reduceCtorEq, pappend, plen, hA, rA]) | ((first | refine VO_cond ?_ ?_ | refine VOd_cond ?_ ?_ | refine VOg_cond ?_ ?_ | refine VOh_cond ?_ ?_ | refine VOi_cond ?_ ?_ | refine And.intro ?_ ?_) <;> intro h <;> (try simp only [Bool.not_eq_true', Bool.not_eq_false', decide_eq_true_eq, decide_eq_false_iff_not] at h) <;> simp (maxSteps := 3000000) (disch := omega) only [go_sem, ↓reduceIte, reduceCtorEq, pappend, plen, hA, rA, h]) | (refine hK _ _ ?_; clear hK K) | (refine PW.cond (t := _) rfl (fun h => ?_) (fun h => ?_) <;> (try (cases h; done)) <;> (try simp only [Bool.not_eq_true', Bool.not_eq_false', decide_eq_true_eq, decide_eq_false_iff_not] at h))))
  all_goals first | exact PW.ret ⟨_, rfl, Fin.now⟩ | omega

theorem rtake_ok (i : Nat) (p : List UInt8) (n a m : Nat) (H : Heap) (hA : H[i]? = some (rA p n a)) (ha : a + m ≤ n) (hn : n ≤ 8 * p.length) (hp : p.length ≤ 100000000) (hm : m ≤ 32) :
    CallOk Tryd.prog 70 [.ptr i 0 0, .int .i64 (m : Int)] H (.tup [.int .u32 (vl p a m : Int), .int .i64 0]) (H.set i (rA p n (a + m))) := by
  have hi := (List.getElem?_eq_some_iff.1 hA).1
  have hself := set_self hA
  refine CallOk.body (F0 := [(0, .ptr i 0 0), (1, .int .i64 (m : Int))]) Tryd.func70 rfl Tryd.ntmps70 Tryd.results70 rfl (by kernel_rfl) rfl ?_
  (repeat refine PW.seq ?_); refine PW.rg rfl fun K hK => ?_; simp (maxSteps := 3000000) (disch := omega) only [go_sem, ↓reduceIte, reduceCtorEq, pappend, plen]; refine hK _ _ ?_; clear hK K
  (repeat refine PW.seq ?_)
  refine PW.rgv [0, 1] 17 (.bool false) rfl ?_ ?_
  · simp (maxSteps := 3000000) (disch := omega) only [go_sem, ↓reduceIte, reduceCtorEq, pappend, plen, hA, rA]
  (repeat refine PW.seq ?_); refine PW.cond (t := _) rfl (fun h => ?_) (fun h => ?_)
  · cases h
  refine PW.skip ?_
  (repeat refine PW.seq ?_); refine PW.draw mix (by kernel_rfl) fun K hK => ?_; simp (maxSteps := 3000000) (disch := omega) only [go_sem, ↓reduceIte, reduceCtorEq, pappend, plen, hA, rA]; refine hK _ _ ?_; clear hK K
  (repeat refine PW.seq ?_); refine PW.cond (t := _) rfl (fun h => ?_) (fun h => ?_)
  · cases h
  refine PW.skip ?_
  (repeat refine PW.seq ?_); refine PW.rg rfl fun K hK => ?_; simp (maxSteps := 3000000) (disch := omega) only [go_sem, ↓reduceIte, reduceCtorEq, pappend, plen]; refine hK _ _ ?_; clear hK K
  (repeat refine PW.seq ?_); refine PW.rg rfl fun K hK => ?_; simp (maxSteps := 3000000) (disch := omega) only [go_sem, ↓reduceIte, reduceCtorEq, pappend, plen]; refine hK _ _ ?_; clear hK K
  (repeat refine PW.seq ?_); refine PW.block (PW.loop ?_)
  suffices hloop : ∀ (k : Nat), k ≤ m → PL Tryd.prog _ _ [(0, .ptr i 0 0), (6, .int .u32 (vl p a k : Int)), (29, .int .i64 (m : Int)), (30, .int .i64 (k : Int))] (H.set i (rA p n (a + k))) _ by
    exact PL.at [0, 6, 29, 30] (hloop 0 (Nat.zero_le _)) rfl hself.symm
  intro k hk
  induction hmk : m - k using Nat.strongRecOn generalizing k with
  | _ r ih =>
    refine PL.round ?_; (repeat refine PW.seq ?_); refine PW.rg rfl fun K hK => ?_; simp (maxSteps := 3000000) (disch := omega) only [go_sem, ↓reduceIte, reduceCtorEq, pappend, plen]; refine hK _ _ ?_; clear hK K
    have hat : ∀ B : Blk, (H.set i B)[i]? = some B := fun B => by simp [hi]
    (repeat refine PW.seq ?_); refine PW.cond (t := _) rfl (fun h => ?_) (fun h => ?_)
    · have h4 : k < m := by have := of_decide_eq_true h; omega
      have hnext := ih (m - (k + 1)) (by omega) (k + 1) (by omega) rfl
      have hr8 : (a + k) % 8 < 8 := Nat.mod_lt _ (by omega)
      have hq8 : (a + k) / 8 < p.length := by omega
      have hu : ubit p (a + k) = (p.getD ((a + k) / 8) 0).toNat / 2 ^ (7 - (a + k) % 8) % 2 := rfl
      have e3 : (7 : Int) - (((a + k) % 8 : Nat) : Int) = ((7 - (a + k) % 8 : Nat) : Int) := by omega
      have e4 : ((a + k : Nat) : Int) + 1 = ((a + (k + 1) : Nat) : Int) := by omega
      have hul := ubit_lt p (a + k)
      have hvl := vl_lt p a k
      have hvl2 : 2 * vl p a k < 4294967296 := by
        have : 2 ^ k ≤ 2 ^ 31 := Nat.pow_le_pow_right (by omega) (by omega)
        omega
      have hb : byt p ((a + k) / 8) = ((p.getD ((a + k) / 8) 0).toNat : Int) := rfl
      refine PW.skip ?_; (repeat refine PW.seq ?_); refine PW.block ?_
      (repeat refine PW.seq ?_); refine PW.draw mix (by kernel_rfl) fun K hK => ?_; simp (maxSteps := 3000000) (disch := omega) only [go_sem, ↓reduceIte, reduceCtorEq, pappend, plen, hat, rA, tdiv8, tmod8, length_bs, bs_get, e3, hb, pshr_u8, pand1_u8, ← hu]; refine hK _ _ ?_; clear hK K
      (repeat refine PW.seq ?_); refine PW.rg rfl fun K hK => ?_; simp (maxSteps := 3000000) (disch := omega) only [go_sem, ↓reduceIte, reduceCtorEq, pappend, plen, pshl1_u32, por_u32]; refine hK _ _ ?_; clear hK K
      (repeat refine PW.seq ?_); refine PW.rg rfl fun K hK => ?_; simp (maxSteps := 3000000) (disch := omega) only [go_sem, ↓reduceIte, reduceCtorEq, pappend, plen, hat, rA, e4, List.set_set]; refine hK _ _ ?_; clear hK K
      (repeat refine PW.seq ?_); refine PW.rg rfl fun K hK => ?_; simp (maxSteps := 3000000) (disch := omega) only [go_sem, ↓reduceIte, reduceCtorEq, pappend, plen]; refine hK _ _ ?_; clear hK K
      exact PL.at [0, 6, 29, 30] hnext rfl rfl
    · have h4 : k = m := by have := of_decide_eq_false h; omega
      subst h4
      refine PW.exit ?_
      (repeat refine PW.seq ?_); refine PW.rg rfl fun K hK => ?_; simp (maxSteps := 3000000) (disch := omega) only [go_sem, ↓reduceIte, reduceCtorEq, pappend, plen]; refine hK _ _ ?_; clear hK K
      refine PW.ret ⟨_, rfl, Fin.now⟩

end Go.Proofs.YtbhdollgohgkgaaDoor.Sc

namespace Go.Proofs.YtbhdollgohgkgaaDoor.Sc
set_option linter.all false
set_option linter.unusedVariables false
set_option linter.unusedSimpArgs false
open Pm Ty Go.RowKit

/-- Trailing zeros of a byte. -/
def tz8 (b : Nat) : Nat := if b % 2 ≠ 0 then 0 else if b % 4 ≠ 0 then 1 else if b % 8 ≠ 0 then 2 else if b % 16 ≠ 0 then 3 else if b % 32 ≠ 0 then 4 else if b % 64 ≠ 0 then 5 else if b % 128 ≠ 0 then 6 else if b % 256 ≠ 0 then 7 else 8
theorem tz8_fact : ∀ b < 256, b = 0 ∨ (tz8 b < 8 ∧ b / 2 ^ tz8 b % 2 = 1 ∧ ∀ j < 8, tz8 b ≤ j ∨ b / 2 ^ j % 2 = 0) := by decide +kernel

def isInt (r : Option Res) (v : Nat) : Bool := match r with
  | some (.val (.int .i64 n) []) => n == (v : Int)
  | _ => false
theorem tz_all : ∀ b : Nat, b < 256 → isInt (evalN Tryd.prog 100 (.call 80 [.int .u8 (b : Int)] [])) (tz8 b) = true := by decide +kernel
theorem tz_ok (b : Nat) (hb : b < 256) (H : Heap) : CallOk Tryd.prog 80 [.int .u8 (b : Int)] H (.int .i64 (tz8 b : Int)) H := by
  refine CallOk.eval 100 ?_ ?_
  · have h := tz_all b hb
    unfold isInt at h
    split at h
    · rename_i he; rw [he, eq_of_beq h]
    · cases h
  · intro x hx
    simp only [List.mem_cons, List.not_mem_nil, or_false] at hx
    rw [hx]; exact .int _ _

/-- The last byte; the number of bits ahead of the last set one. -/
def lastB (q : List UInt8) : Nat := (q.getD (q.length - 1) 0).toNat
def nb (q : List UInt8) : Nat := 8 * q.length - 1 - tz8 (lastB q)

theorem newr_bad (q : List UInt8) (f : Bool) (H : Heap) (hl : q.length ≤ 100000000) (hb : q.length = 0 ∨ lastB q = 0) :
    CallOk Tryd.prog 63 [.slice (bs q) q.length f] H (.tup [.nilp, .int .i64 3]) H := by
  refine CallOk.body (F0 := [(0, .slice (bs q) q.length f)]) Tryd.func63 rfl Tryd.ntmps63 Tryd.results63 rfl (by kernel_rfl) rfl ?_
  by_cases h0 : q.length = 0
  · (repeat refine PW.seq ?_); refine PW.rg rfl fun K hK => ?_; simp (maxSteps := 3000000) (disch := omega) only [go_sem, ↓reduceIte, reduceCtorEq, pappend, plen]; refine hK _ _ ?_; clear hK K
    (repeat refine PW.seq ?_); refine PW.rg rfl fun K hK => ?_; simp (maxSteps := 3000000) (disch := omega) only [go_sem, ↓reduceIte, reduceCtorEq, pappend, plen, h0]
    refine hK _ _ ?_; clear hK K
    (repeat refine PW.seq ?_); refine PW.cond (t := _) rfl (fun h => ?_) (fun h => ?_)
    · (repeat refine PW.seq ?_); refine PW.rg rfl fun K hK => ?_; simp (maxSteps := 3000000) (disch := omega) only [go_sem, ↓reduceIte, reduceCtorEq, pappend, plen]; refine hK _ _ ?_; clear hK K
      exact PW.ret ⟨_, rfl, Fin.now⟩
    · cases h
  · have e1 : (q.length : Int) - 1 = ((q.length - 1 : Nat) : Int) := by omega
    have hby : byt q (q.length - 1) = 0 := by
      have : byt q (q.length - 1) = (lastB q : Int) := rfl
      omega
    (repeat refine PW.seq ?_); refine PW.rg rfl fun K hK => ?_; simp (maxSteps := 3000000) (disch := omega) only [go_sem, ↓reduceIte, reduceCtorEq, pappend, plen]; refine hK _ _ ?_; clear hK K
    (repeat refine PW.seq ?_); refine PW.rg rfl fun K hK => ?_; simp (maxSteps := 3000000) (disch := omega) only [go_sem, ↓reduceIte, reduceCtorEq, pappend, plen, e1, bs_get, length_bs, hby]
    refine hK _ _ ?_; clear hK K
    (repeat refine PW.seq ?_); refine PW.cond (t := _) rfl (fun h => ?_) (fun h => ?_)
    · (repeat refine PW.seq ?_); refine PW.rg rfl fun K hK => ?_; simp (maxSteps := 3000000) (disch := omega) only [go_sem, ↓reduceIte, reduceCtorEq, pappend, plen]; refine hK _ _ ?_; clear hK K
      exact PW.ret ⟨_, rfl, Fin.now⟩
    · cases h
theorem newr_ok (q : List UInt8) (f : Bool) (H : Heap) (hl : q.length ≤ 100000000) (hq : q.length ≠ 0) (hb : lastB q ≠ 0) :
    CallOk Tryd.prog 63 [.slice (bs q) q.length f] H (.tup [.ptr (H.length + 1) 0 0, .int .i64 0]) (H ++ [⟨5, 1, []⟩, rA q (nb q) 0]) := by
  have e1 : (q.length : Int) - 1 = ((q.length - 1 : Nat) : Int) := by omega
  have hby : byt q (q.length - 1) = (lastB q : Int) := rfl
  have hlt : lastB q < 256 := UInt8.toNat_lt _
  have htz : tz8 (lastB q) < 8 := ((tz8_fact _ hlt).resolve_left hb).1
  refine CallOk.body (F0 := [(0, .slice (bs q) q.length f)]) Tryd.func63 rfl Tryd.ntmps63 Tryd.results63 rfl (by kernel_rfl) rfl ?_
  (repeat refine PW.seq ?_); refine PW.rg rfl fun K hK => ?_; simp (maxSteps := 3000000) (disch := omega) only [go_sem, ↓reduceIte, reduceCtorEq, pappend, plen]; refine hK _ _ ?_; clear hK K
  (repeat refine PW.seq ?_); refine PW.rg rfl fun K hK => ?_; simp (maxSteps := 3000000) (disch := omega) only [go_sem, ↓reduceIte, reduceCtorEq, pappend, plen, e1, bs_get, length_bs, hby]; refine hK _ _ ?_; clear hK K
  (repeat refine PW.seq ?_); refine PW.cond (t := _) rfl (fun h => ?_) (fun h => ?_)
  · cases h
  refine PW.skip ?_
  (repeat refine PW.seq ?_); refine PW.rg rfl fun K hK => ?_; simp (maxSteps := 3000000) (disch := omega) only [go_sem, ↓reduceIte, reduceCtorEq, pappend, plen]; refine hK _ _ ?_; clear hK K
  have hcl : (List.replicate q.length [PV.int .u8 0]).flatten.length = q.length := by simp
  refine PW.to [0, 4] [(0, .slice (bs q) q.length f), (4, .ptr (H.length + 1) 0 0)] (H ++ [⟨5, 0, bs q⟩, ⟨144, 0, [.msl H.length 0 0 q.length 1 true, .int .i64 0, .int .i64 0]⟩]) ?_ ?_
  · (repeat refine PW.seq ?_); refine PW.rg rfl fun K hK => ?_; simp (maxSteps := 3000000) (disch := omega) only [go_sem, ↓reduceIte, reduceCtorEq, pappend, plen, length_bs, hcl]; refine hK _ _ ?_; clear hK K
    refine ⟨rfl, ?_⟩
    have htk : List.take q.length (bs q) = bs q := List.take_of_length_le (by rw [length_bs]; exact Nat.le_refl _)
    simp [splice, reps, length_bs, htk]
  refine PW.view (Vs.frzCell (id := H.length) (id' := H.length + 1) (j := 0) (hp0 _ _ _) (hp1 _ _ _ _) (by omega) rfl (by simp [length_bs])) ?_
  simp only [hs0, hs1, List.set_cons_zero]
  (repeat refine PW.seq ?_); refine PW.rg rfl fun K hK => ?_; simp (maxSteps := 3000000) (disch := omega) only [go_sem, ↓reduceIte, reduceCtorEq, pappend, plen, length_bs, e1, bs_get, hby]; refine VCx.call (tz_ok _ hlt _) rfl ?_; simp (maxSteps := 3000000) (disch := omega) only [go_sem, ↓reduceIte, reduceCtorEq, pappend, plen, length_bs, e1, bs_get, hby]; refine hK _ _ ?_; clear hK K
  (repeat refine PW.seq ?_); refine PW.rg rfl fun K hK => ?_; simp (maxSteps := 3000000) (disch := omega) only [go_sem, ↓reduceIte, reduceCtorEq, pappend, plen]; refine hK _ _ ?_; clear hK K
  have e2 : 8 * (q.length : Int) - 1 - (tz8 (lastB q) : Int) = (nb q : Int) := by unfold nb; omega
  refine PW.ret ⟨_, rfl, ?_⟩
  refine .inl ⟨?_, ?_⟩
  · simp [slot, Nat.beq]
  · rw [e2]; rfl

end Go.Proofs.YtbhdollgohgkgaaDoor.Sc

namespace Go.Proofs.YtbhdollgohgkgaaDoor.Sc
set_option linter.all false
set_option linter.unusedVariables false
set_option linter.unusedSimpArgs false
open Pm Ty Go.RowKit

/-- All bits of some bytes. -/
def bl (q : List UInt8) : List Bool := (List.range (8 * q.length)).map fun k => decide (ubit q k = 1)
theorem ubit_last (q : List UInt8) (r : Nat) (hq : q.length ≠ 0) (hr : r < 8) : ubit q (8 * q.length - 1 - r) = lastB q / 2 ^ r % 2 := by
  unfold ubit lastB
  rw [show (8 * q.length - 1 - r) / 8 = q.length - 1 by omega, show 7 - (8 * q.length - 1 - r) % 8 = r by omega]
theorem nb_one (q : List UInt8) (hq : q.length ≠ 0) (hb : lastB q ≠ 0) : ubit q (nb q) = 1 ∧ nb q < 8 * q.length ∧ ∀ j, nb q < j → j < 8 * q.length → ubit q j = 0 := by
  have hlt : lastB q < 256 := UInt8.toNat_lt _
  obtain ⟨h1, h2, h3⟩ := (tz8_fact _ hlt).resolve_left hb
  refine ⟨?_, by unfold nb; omega, fun j hj hj2 => ?_⟩
  · rw [nb, ubit_last q _ hq h1, h2]
  · unfold nb at hj
    have := ubit_last q (8 * q.length - 1 - j) hq (by omega)
    rw [show 8 * q.length - 1 - (8 * q.length - 1 - j) = j by omega] at this
    rw [this]
    exact (h3 _ (by omega)).resolve_left (by omega)

end Go.Proofs.YtbhdollgohgkgaaDoor.Sc

namespace Go.Proofs.YtbhdollgohgkgaaDoor.Sc
set_option linter.all false
set_option linter.unusedVariables false
set_option linter.unusedSimpArgs false
open Pm Ty Go.RowKit

def rB (q : List UInt8) (v : Nat) : Blk := ⟨5, v, bs (zb (bl q))⟩

end Go.Proofs.YtbhdollgohgkgaaDoor.Sc

namespace Go.Proofs.YtbhdollgohgkgaaDoor.Sc
set_option linter.all false
set_option linter.unusedVariables false
set_option linter.unusedSimpArgs false
open Pm Ty Go.RowKit

end Go.Proofs.YtbhdollgohgkgaaDoor.Sc

namespace Go.Proofs.YtbhdollgohgkgaaDoor.Sc
set_option linter.all false
set_option linter.unusedVariables false
set_option linter.unusedSimpArgs false
open Pm Ty Go.RowKit

theorem ubit_pk (l : List Bool) (k : Nat) (h : k / 8 < (l.length + 7) / 8) : ubit (pk l) k = bn l k := by
  have h1 : ((pk l).getD (k / 8) 0).toNat = pkN l (k / 8) := by
    have := pk_byt l (k / 8) h
    simp only [byt] at this
    omega
  unfold ubit
  rw [h1]
  obtain ⟨i, r, rfl, hr⟩ : ∃ i r, k = 8 * i + r ∧ r < 8 := ⟨k / 8, k % 8, by omega, by omega⟩
  rw [show (8 * i + r) / 8 = i by omega, show (8 * i + r) % 8 = r by omega]
  unfold pkN
  have b0 := bn_lt l (8 * i)
  have b1 := bn_lt l (8 * i + 1)
  have b2 := bn_lt l (8 * i + 2)
  have b3 := bn_lt l (8 * i + 3)
  have b4 := bn_lt l (8 * i + 4)
  have b5 := bn_lt l (8 * i + 5)
  have b6 := bn_lt l (8 * i + 6)
  have b7 := bn_lt l (8 * i + 7)
  have h3 : r = 0 ∨ r = 1 ∨ r = 2 ∨ r = 3 ∨ r = 4 ∨ r = 5 ∨ r = 6 ∨ r = 7 := by omega
  rcases h3 with rfl | rfl | rfl | rfl | rfl | rfl | rfl | rfl
  all_goals (simp only [Nat.reduceSub, Nat.reducePow, Nat.add_zero]; omega)
theorem vl_bits (q : List UInt8) (a n V : Nat) (h : ∀ i < n, ubit q (a + i) = V / 2 ^ (n - 1 - i) % 2) : ∀ k ≤ n, vl q a k = V / 2 ^ (n - k) % 2 ^ k
  | 0, _ => by simp [vl, Nat.mod_one]
  | k + 1, hk => by
    rw [vl, vl_bits q a n V h k (by omega), h k (by omega), show n - k = (n - 1 - k) + 1 by omega, show n - (k + 1) = n - 1 - k by omega, Nat.pow_succ 2 (n - 1 - k), ← Nat.div_div_eq_div_mul, Nat.pow_succ 2 k, Nat.mul_comm (2 ^ k) 2, Nat.mod_mul]
    omega
theorem vl_all (q : List UInt8) (a n V : Nat) (hV : V < 2 ^ n) (h : ∀ i < n, ubit q (a + i) = V / 2 ^ (n - 1 - i) % 2) : vl q a n = V := by
  rw [vl_bits q a n V h n (Nat.le_refl _), Nat.sub_self, Nat.pow_zero, Nat.div_one, Nat.mod_eq_of_lt hV]

theorem bn_left (l m : List Bool) (k : Nat) (h : k < l.length) : bn (l ++ m) k = bn l k := by unfold bn; rw [List.getElem?_append_left h]
theorem bn_right (l m : List Bool) (k : Nat) (h : l.length ≤ k) : bn (l ++ m) k = bn m (k - l.length) := by unfold bn; rw [List.getElem?_append_right h]
theorem bn_vbits (V n i : Nat) (h : i < n) : bn (vbits V n) i = V / 2 ^ (n - 1 - i) % 2 := by
  unfold bn vbits
  rw [List.getElem?_map, List.getElem?_range h, Option.map_some, Option.getD_some, bit_toNat]

/-- A payload: the bits, and the end mark. -/
theorem pk_payload (L : List Bool) : (pk (L ++ [true])).length ≠ 0 ∧ lastB (pk (L ++ [true])) ≠ 0 ∧ nb (pk (L ++ [true])) = L.length ∧ L.length ≤ 8 * (pk (L ++ [true])).length ∧ ∀ k, k < L.length → ubit (pk (L ++ [true])) k = bn L k := by
  have hl : (L ++ [true]).length = L.length + 1 := by simp
  have hlen : (pk (L ++ [true])).length = (L.length + 8) / 8 := by rw [pk_len, hl]
  have hu : ∀ k, k < 8 * ((L.length + 8) / 8) → ubit (pk (L ++ [true])) k = bn (L ++ [true]) k := fun k hk => ubit_pk _ k (by rw [hl]; omega)
  have h1 : ubit (pk (L ++ [true])) L.length = 1 := by
    rw [hu _ (by omega), bn_right _ _ _ (Nat.le_refl _), Nat.sub_self]; rfl
  have hq : (pk (L ++ [true])).length ≠ 0 := by omega
  have hb : lastB (pk (L ++ [true])) ≠ 0 := fun e => by
    have := ubit_last (pk (L ++ [true])) (8 * (pk (L ++ [true])).length - 1 - L.length) hq (by omega)
    rw [e, Nat.zero_div, show 8 * (pk (L ++ [true])).length - 1 - (8 * (pk (L ++ [true])).length - 1 - L.length) = L.length by omega, h1] at this
    omega
  obtain ⟨n1, n2, n3⟩ := nb_one _ hq hb
  refine ⟨hq, hb, ?_, by omega, fun k hk => by rw [hu k (by omega), bn_left _ _ _ hk]⟩
  rcases Nat.lt_trichotomy (nb (pk (L ++ [true]))) L.length with h | h | h
  · have := n3 _ h (by omega)
    omega
  · exact h
  · have h2 := hu _ (by omega : nb (pk (L ++ [true])) < _)
    rw [n1, bn_out _ _ (by rw [hl]; omega)] at h2
    omega

end Go.Proofs.YtbhdollgohgkgaaDoor.Sc
