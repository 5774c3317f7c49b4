/-
  Contracts of the tape that the laws draw their inputs from: Next, Types.
-/
import Derived.Test.YtnjnikafhbholaaPn
namespace Go.Proofs.Ytnjnikafhbholaa.Sc
set_option linter.all false
set_option linter.unusedVariables false
set_option linter.unusedSimpArgs false
open Pm Ty Go.RowKit

/-- A tape in memory: its numbers and how many have been read. -/
def tb (L : List Int) (f : Bool) (a : Nat) : Blk := ⟨59, 0, [.slice (is L) L.length f, .int .i64 (a : Int)]⟩
def tv (L : List Int) (a : Nat) : Int := if a < L.length then intAt L a else (a : Int) * 7 + 3
/-- The next number below n. -/
def tn (L : List Int) (a : Nat) (n : Int) : Int := ((tv L a).tmod n + n).tmod n
theorem tmod_lt (v n : Int) (h : 1 ≤ n) : -n < v.tmod n ∧ v.tmod n < n := by
  have h1 := Int.tmod_lt_of_pos v (by omega : 0 < n)
  have h2 := Int.lt_tmod_of_pos v (by omega : 0 < n)
  exact ⟨h2, h1⟩
theorem tn_range (L : List Int) (a : Nat) (n : Int) (h : 1 ≤ n) : 0 ≤ tn L a n ∧ tn L a n < n := by
  have h1 := tmod_lt (tv L a) n h
  unfold tn
  refine ⟨Int.tmod_nonneg _ (by omega), Int.tmod_lt_of_pos _ (by omega)⟩

theorem next_ok (L : List Int) (f : Bool) (a : Nat) (n : Int) (i : Nat) (H : Heap) (hi : H[i]? = some (tb L f a)) (hn : 1 ≤ n ∧ n ≤ 1000000000) (ha : a ≤ 1000000000) :
    CallOk Try.prog 34 [.ptr i 0 0, .int .i64 n] H (.int .i64 (tn L a n)) (H.set i (tb L f (a + 1))) := by
  have hr := tmod_lt (tv L a) n hn.1
  unfold tb at hi
  refine CallOk.body (F0 := [(0, .ptr i 0 0), (1, .int .i64 n)]) Try.func34 rfl Try.ntmps34 Try.results34 rfl (by kernel_rfl) rfl ?_
  (repeat refine PW.seq ?_); refine PW.rg rfl fun K hK => ?_; simp (maxSteps := 3000000) (disch := omega) only [go_sem, ↓reduceIte, reduceCtorEq, pappend, plen]; refine hK _ _ ?_; clear hK K; (repeat refine PW.seq ?_); refine PW.rg rfl fun K hK => ?_; simp (maxSteps := 3000000) (disch := omega) only [go_sem, ↓reduceIte, reduceCtorEq, pappend, plen]; refine hK _ _ ?_; clear hK K
  (repeat refine PW.seq ?_); refine PW.cond (t := _) rfl (fun h => ?_) (fun h => ?_)
  · cases h
  refine PW.skip ?_
  (repeat refine PW.seq ?_); refine PW.rg rfl fun K hK => ?_; simp (maxSteps := 3000000) (disch := omega) only [go_sem, ↓reduceIte, reduceCtorEq, pappend, plen, hi]; refine hK _ _ ?_; clear hK K
  (repeat refine PW.seq ?_); refine PW.draw mix (by kernel_rfl) fun K hK => ?_; simp (maxSteps := 3000000) (disch := omega) only [go_sem, ↓reduceIte, reduceCtorEq, pappend, plen, hi]; refine hK _ _ ?_; clear hK K
  refine PW.meet [0, 1, 5] [(0, .ptr i 0 0), (1, .int .i64 n), (5, .int .i64 (tv L a))] H ?_ ?_
  · (repeat refine PW.seq ?_); refine PW.cond (t := _) rfl (fun h => ?_) (fun h => ?_)
    · have h4 : a < L.length := by have := of_decide_eq_true h; omega
      (repeat refine PW.seq ?_); refine PW.draw mix (by kernel_rfl) fun K hK => ?_; simp (maxSteps := 3000000) (disch := omega) only [go_sem, ↓reduceIte, reduceCtorEq, pappend, plen, hi, is_get, is_len]; refine hK _ _ ?_; clear hK K
      refine ⟨?_, rfl⟩
      rw [show tv L a = intAt L a from if_pos h4]
      rfl
    · have h4 : ¬ a < L.length := by have := of_decide_eq_false h; omega
      refine PW.skip ⟨?_, rfl⟩
      rw [show tv L a = (a : Int) * 7 + 3 from if_neg h4]
      rfl
  (repeat refine PW.seq ?_); refine PW.rg rfl fun K hK => ?_; simp (maxSteps := 3000000) (disch := omega) only [go_sem, ↓reduceIte, reduceCtorEq, pappend, plen, hi]; refine hK _ _ ?_; clear hK K
  (repeat refine PW.seq ?_); refine PW.rg rfl fun K hK => ?_; simp (maxSteps := 3000000) (disch := omega) only [go_sem, ↓reduceIte, reduceCtorEq, pappend, plen]; refine hK _ _ ?_; clear hK K
  refine PW.ret ⟨_, rfl, ?_⟩
  exact Fin.now

theorem gp (G K : Heap) (b : Blk) (N : Nat) (h : G.length = N) : (G ++ b :: K)[N]? = some b := by rw [List.getElem?_append_right (by omega), h]; simp
theorem gs (G K : Heap) (b x : Blk) (N : Nat) (h : G.length = N) : (G ++ b :: K).set N x = G ++ x :: K := by rw [List.set_append_right _ _ (by omega), h]; simp
theorem gset (G K : Heap) (i : Nat) (x : Blk) (h : i < G.length) : (G ++ K).set i x = G.set i x ++ K := List.set_append_left _ _ h

/-- Types: 1, 2, 2, 2, 3, 3, 3. -/
def tbl (r : Int) : Int := if r = 0 then 1 else if r ≤ 3 then 2 else 3
theorem tbl_range (r : Int) : 1 ≤ tbl r ∧ tbl r ≤ 3 := by unfold tbl; repeat' split <;> omega
def tyl (L : List Int) (a : Nat) : Nat → List Int
  | 0 => [1]
  | k + 1 => tyl L a k ++ [tbl (tn L (a + k) 7)]
theorem tyl_len (L : List Int) (a : Nat) : ∀ k, (tyl L a k).length = k + 1
  | 0 => rfl
  | k + 1 => by simp [tyl, tyl_len L a k]
def tyR (L : List Int) (a k : Nat) : List Int := if intAt (tyl L a k) k = 3 then (tyl L a k).set k (1 + tn L (a + k) 2) else tyl L a k
def tyA (L : List Int) (a k : Nat) : Nat := if intAt (tyl L a k) k = 3 then a + k + 1 else a + k
theorem tyR_len (L : List Int) (a k : Nat) : (tyR L a k).length = k + 1 := by
  unfold tyR
  split
  · rw [List.length_set, tyl_len]
  · exact tyl_len L a k
theorem tbl_get (r : Int) (h : 0 ≤ r ∧ r < 7) : ([.int .i64 1, .int .i64 2, .int .i64 2, .int .i64 2, .int .i64 3, .int .i64 3, .int .i64 3] : List PV)[r.toNat]? = some (.int .i64 (tbl r)) := by
  have h3 : r = 0 ∨ r = 1 ∨ r = 2 ∨ r = 3 ∨ r = 4 ∨ r = 5 ∨ r = 6 := by omega
  rcases h3 with h3 | h3 | h3 | h3 | h3 | h3 | h3 <;> (subst h3; rfl)

theorem types_ok (L : List Int) (f : Bool) (a k : Nat) (i : Nat) (H : Heap) (hi : H[i]? = some (tb L f a)) (hk : k ≤ 1000000) (ha : a ≤ 100000000) :
    CallOk Try.prog 33 [.ptr i 0 0, .int .i64 ((k : Int) + 1)] H (.slice (is (tyR L a k)) (k + 1) false) (H.set i (tb L f (tyA L a k))) := by
  have hil : i < H.length := (List.getElem?_eq_some_iff.1 hi).1
  have h0 : H.set i (tb L f a) = H := by
    apply List.ext_getElem?
    intro j
    rw [List.getElem?_set]
    split
    · rename_i e; subst e; first | rw [hi] | rw [if_pos hil, hi]
    · rfl
  refine CallOk.body (F0 := [(0, .ptr i 0 0), (1, .int .i64 ((k : Int) + 1))]) Try.func33 rfl Try.ntmps33 Try.results33 rfl (by kernel_rfl) rfl ?_
  (repeat refine PW.seq ?_); refine PW.rg rfl fun K hK => ?_; simp (maxSteps := 3000000) (disch := omega) only [go_sem, ↓reduceIte, reduceCtorEq, pappend, plen]; refine hK _ _ ?_; clear hK K; (repeat refine PW.seq ?_); refine PW.rg rfl fun K hK => ?_; simp (maxSteps := 3000000) (disch := omega) only [go_sem, ↓reduceIte, reduceCtorEq, pappend, plen]; refine hK _ _ ?_; clear hK K
  (repeat refine PW.seq ?_); refine PW.block (PW.loop ?_)
  cases k with
  | zero =>
    refine PL.round ?_; (repeat refine PW.seq ?_); refine PW.rg rfl fun K hK => ?_; simp (maxSteps := 3000000) (disch := omega) only [go_sem, ↓reduceIte, reduceCtorEq, pappend, plen]; refine hK _ _ ?_; clear hK K
    (repeat refine PW.seq ?_); refine PW.cond (t := _) rfl (fun h => ?_) (fun h => ?_)
    · cases h
    refine PW.exit ?_
    (repeat refine PW.seq ?_); refine PW.rg rfl fun K hK => ?_; simp (maxSteps := 3000000) (disch := omega) only [go_sem, ↓reduceIte, reduceCtorEq, pappend, plen]; refine hK _ _ ?_; clear hK K
    (repeat refine PW.seq ?_); refine PW.cond (t := _) rfl (fun h => ?_) (fun h => ?_)
    · cases h
    refine PW.skip ?_
    (repeat refine PW.seq ?_); refine PW.rg rfl fun K hK => ?_; simp (maxSteps := 3000000) (disch := omega) only [go_sem, ↓reduceIte, reduceCtorEq, pappend, plen]; refine hK _ _ ?_; clear hK K
    refine PW.ret ⟨_, rfl, ?_⟩
    rw [show tyA L a 0 = a from rfl, h0]
    have := Fin.base (H := H) (K := []) (v := .slice (is [1]) 1 false) (v' := .slice (is [1]) 1 true) (Fz.sliceC (FzC.refl (is_scoped _ _)) (fun e => by cases e))
    rw [List.append_nil] at this
    exact this
  | succ k =>
    suffices hloop : ∀ j, 1 ≤ j → j ≤ k + 1 → PL Try.prog _ _ [(0, .ptr i 0 0), (1, .int .i64 (((k + 1 : Nat) : Int) + 1)), (5, .msl H.length (j + 1) 0 (j + 1) 1 true)] (H.set i (tb L f (a + j)) ++ [⟨3, j + 1, is (tyl L a j)⟩]) _ by
      refine PL.round ?_; (repeat refine PW.seq ?_); refine PW.rg rfl fun K hK => ?_; simp (maxSteps := 3000000) (disch := omega) only [go_sem, ↓reduceIte, reduceCtorEq, pappend, plen]; refine hK _ _ ?_; clear hK K
      (repeat refine PW.seq ?_); refine PW.cond (t := _) rfl (fun h => ?_) (fun h => ?_)
      · have hr := tn_range L a 7 (by omega)
        have hg := tbl_get (tn L a 7) hr
        refine PW.skip ?_; (repeat refine PW.seq ?_); refine PW.block ?_
        have hlen : (H.set i (tb L f (a + 1))).length = H.length := List.length_set
        (repeat refine PW.seq ?_); refine PW.rg rfl fun K hK => ?_; simp (maxSteps := 3000000) (disch := omega) only [go_sem, ↓reduceIte, reduceCtorEq, pappend, plen, hg, hlen]; refine VCx.call (next_ok L f a 7 i H hi (by omega) (by omega)) rfl ?_; simp (maxSteps := 3000000) (disch := omega) only [go_sem, ↓reduceIte, reduceCtorEq, pappend, plen, hg, hlen]; refine hK _ _ ?_; clear hK K
        refine PL.at [0, 1, 5] (hloop 1 (by omega) (by omega)) rfl rfl
      · cases h
    intro j hj1 hj2
    induction hm : k + 1 - j using Nat.strongRecOn generalizing j with
    | _ m ih =>
      obtain ⟨G, hG⟩ : ∃ G, H.set i (tb L f (a + j)) = G := ⟨_, rfl⟩
      have hGl : G.length = H.length := by rw [← hG, List.length_set]
      have hGi : (G ++ [⟨3, j + 1, is (tyl L a j)⟩])[i]? = some (tb L f (a + j)) := by rw [List.getElem?_append_left (by omega), ← hG]; simp [hil]
      have hGs : ∀ y K, (G ++ K).set i y = H.set i y ++ K := fun y K => by rw [gset G K i y (by omega), ← hG, List.set_set]
      have htl := tyl_len L a j
      rw [hG]
      have hS1 : (H.set i (tb L f (a + j + 1))).length = H.length := List.length_set
      refine PL.round ?_; (repeat refine PW.seq ?_); refine PW.rg rfl fun K hK => ?_; simp (maxSteps := 3000000) (disch := omega) only [go_sem, ↓reduceIte, reduceCtorEq, pappend, plen, gp]; refine hK _ _ ?_; clear hK K
      (repeat refine PW.seq ?_); refine PW.cond (t := _) rfl (fun h => ?_) (fun h => ?_)
      · have h4 : j < k + 1 := by have := of_decide_eq_true h; omega
        have hr := tn_range L (a + j) 7 (by omega)
        have hg := tbl_get (tn L (a + j) 7) hr
        refine PW.skip ?_; (repeat refine PW.seq ?_); refine PW.block ?_
        (repeat refine PW.seq ?_); refine PW.rg rfl fun K hK => ?_; simp (maxSteps := 3000000) (disch := omega) only [go_sem, ↓reduceIte, reduceCtorEq, pappend, plen, hg, hGs, gp, gs, htl, is_len]; refine VCx.call (next_ok L f (a + j) 7 i _ hGi (by omega) (by omega)) rfl ?_; simp (maxSteps := 3000000) (disch := omega) only [go_sem, ↓reduceIte, reduceCtorEq, pappend, plen, hg, hGs, gp, gs, htl, is_len]; refine hK _ _ ?_; clear hK K
        refine PL.at [0, 1, 5] (ih (k + 1 - (j + 1)) (by omega) (j + 1) (by omega) (by omega) rfl) ?_ ?_
        · have hc1 : (is (tyl L a j) ++ [PV.int .i64 (tbl (tn L (a + j) 7))]).length = j + 1 + 1 := by rw [List.length_append, is_len, htl]; rfl
          simp (maxSteps := 3000000) (disch := omega) only [go_sem, ↓reduceIte, reduceCtorEq, pappend, plen]
          rw [hc1]
        · have hc1 : (is (tyl L a j) ++ [PV.int .i64 (tbl (tn L (a + j) 7))]).length = j + 1 + 1 := by rw [List.length_append, is_len, htl]; rfl
          rw [hc1, tyl, is_append]
          rfl
      · have h4 : j = k + 1 := by have := of_decide_eq_false h; omega
        subst h4
        refine PW.exit ?_
        have e1 : ((k + 1 : Nat) : Int) + 1 - 1 = ((k + 1 : Nat) : Int) := by omega
        (repeat refine PW.seq ?_); refine PW.rg rfl fun K hK => ?_; simp (maxSteps := 3000000) (disch := omega) only [go_sem, ↓reduceIte, reduceCtorEq, pappend, plen, gp, gs, htl, is_len, is_get, e1]; refine hK _ _ ?_; clear hK K
        have fin : ∀ (l : List Int) (a' : Nat), l.length = k + 1 + 1 → Fin H (.slice (is l) (k + 1 + 1) false) (H.set i (tb L f a')) (.msl H.length (k + 1 + 1) 0 (k + 1 + 1) 1 true) (H.set i (tb L f a') ++ [⟨3, k + 1 + 1, is l⟩]) := fun l a' hl =>
          Fin.cut rfl (by rw [List.length_set]) (fun h => HSc.set h (fun x hx => by
            simp only [tb, List.mem_cons, List.not_mem_nil, or_false] at hx
            rcases hx with rfl | rfl
            · exact sl_scoped (is_scoped _ _)
            · exact .int _ _)) (Fz.mslC (e := 3) (xs := is l) (by rw [List.length_set]; exact Nat.le_refl _) (gp _ _ _ _ (by rw [List.length_set])) (by rw [is_len]; omega) (FzC.refl (is_scoped _ _)))
        (repeat refine PW.seq ?_); refine PW.cond (t := _) rfl (fun h => ?_) (fun h => ?_)
        · have h5 : intAt (tyl L a (k + 1)) (k + 1) = 3 := by simpa using h
          have hr2 := tn_range L (a + (k + 1)) 2 (by omega)
          (repeat refine PW.seq ?_); refine PW.rg rfl fun K hK => ?_; simp (maxSteps := 3000000) (disch := omega) only [go_sem, ↓reduceIte, reduceCtorEq, pappend, plen, hGs, gp, gs, htl, is_len, e1, is_set]; refine VCx.call (next_ok L f (a + (k + 1)) 2 i _ hGi (by omega) (by omega)) rfl ?_; simp (maxSteps := 3000000) (disch := omega) only [go_sem, ↓reduceIte, reduceCtorEq, pappend, plen, hGs, gp, gs, htl, is_len, e1, is_set]; refine hK _ _ ?_; clear hK K
          (repeat refine PW.seq ?_); refine PW.rg rfl fun K hK => ?_; simp (maxSteps := 3000000) (disch := omega) only [go_sem, ↓reduceIte, reduceCtorEq, pappend, plen]; refine hK _ _ ?_; clear hK K
          refine PW.ret ⟨_, rfl, ?_⟩
          rw [show tyR L a (k + 1) = (tyl L a (k + 1)).set (k + 1) (1 + tn L (a + (k + 1)) 2) from if_pos h5, show tyA L a (k + 1) = a + (k + 1) + 1 from if_pos h5]
          exact fin _ _ (by rw [List.length_set]; exact htl)
        · have h5 : intAt (tyl L a (k + 1)) (k + 1) ≠ 3 := by simpa using h
          refine PW.skip ?_
          (repeat refine PW.seq ?_); refine PW.rg rfl fun K hK => ?_; simp (maxSteps := 3000000) (disch := omega) only [go_sem, ↓reduceIte, reduceCtorEq, pappend, plen]; refine hK _ _ ?_; clear hK K
          refine PW.ret ⟨_, rfl, ?_⟩
          rw [show tyR L a (k + 1) = tyl L a (k + 1) from if_neg h5, show tyA L a (k + 1) = a + (k + 1) from if_neg h5, ← hG]
          exact fin _ _ htl

end Go.Proofs.Ytnjnikafhbholaa.Sc
