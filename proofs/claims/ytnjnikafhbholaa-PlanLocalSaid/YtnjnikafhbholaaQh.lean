/-
  Contracts of chapter 31: a plan is built from left to right.
-/
import Derived.Test.YtnjnikafhbholaaQg
namespace Go.Proofs.Ytnjnikafhbholaa.Sc
set_option linter.all false
set_option linter.unusedVariables false
set_option linter.unusedSimpArgs false
open Pm Ty Go.RowKit
open Pl (Pa bump lastC bump_snoc lastC_snoc)

/-- Two blocks of a heap, set. -/
def tw (H : Heap) (i j : Nat) (A B : Blk) : Heap := (H.set i A).set j B
theorem tw_0 (H : Heap) (i j : Nat) (A B : Blk) (h : i < H.length ∧ i ≠ j) : (tw H i j A B)[i]? = some A := by
  unfold tw; rw [List.getElem?_set_ne (by omega)]; simp [h.1]
theorem tw_1 (H : Heap) (i j : Nat) (A B : Blk) (h : j < H.length) : (tw H i j A B)[j]? = some B := by
  unfold tw; simp [h]
theorem tw_len (H : Heap) (i j : Nat) (A B : Blk) : (tw H i j A B).length = H.length := by simp [tw]
theorem tw_tw (H : Heap) (i j : Nat) (A B C D : Blk) (h : i ≠ j) : tw (tw H i j A B) i j C D = tw H i j C D := by
  unfold tw; rw [List.set_comm _ _ (by omega : i ≠ j), List.set_set, List.set_comm _ _ (by omega : j ≠ i), List.set_set]
theorem set_id {H : Heap} {i : Nat} {A : Blk} (h : H[i]? = some A) : H.set i A = H := by
  apply List.ext_getElem?
  intro j
  rw [List.getElem?_set]
  split
  · rename_i e; subst e
    split
    · exact h.symm
    · rename_i hn; exact absurd (List.getElem?_eq_some_iff.1 h).1 hn
  · rfl
/-- A builder and its parts, in memory. -/
def bb (j n : Nat) : Blk := ⟨153, 0, [.msl j (n * 5) 0 n 5 true]⟩
def pb (ps : List Pa) : Blk := ⟨77, ps.length * 5, ps.flatMap pac⟩
theorem snoc_ex {α : Type} (l : List α) : l = [] ∨ ∃ q p, l = q ++ [p] := by
  rcases List.eq_nil_or_concat l with h | ⟨q, p, h⟩
  · exact .inl h
  · exact .inr ⟨q, p, by rw [h, List.concat_eq_append]⟩
def addC (ps : List Pa) (film : Int) : List Pa := if lastC ps then bump ps else ps ++ [⟨false, film, 1, [], 0⟩]
def addK (ps : List Pa) (film : Int) (m : List UInt8) (n : Int) (jn : Bool) : List Pa := if jn then bump ps else ps ++ [⟨true, film, 1, m, n⟩]
structure BdH (H : Heap) (i j : Nat) (ps : List Pa) : Prop where
  gi : H[i]? = some (bb j ps.length)
  gj : H[j]? = some (pb ps)
  ne : i ≠ j
  len : ∀ p ∈ ps, 0 ≤ p.len ∧ p.len ≤ 1000000
  n : ps.length ≤ 1000000

theorem pal_snoc (q : List Pa) (p : Pa) : (q ++ [p]).flatMap pac = q.flatMap pac ++ [.bool p.cp, .int .i64 p.film, .int .i64 p.len, .str p.m, .int .i64 p.fr] := by
  rw [List.flatMap_append, List.flatMap_cons, List.flatMap_nil, List.append_nil]; rfl
theorem five_at (A : List PV) (n : Nat) (hA : A.length = n * 5) (a b c d e : PV) : (A ++ [a, b, c, d, e])[n * 5]? = some a ∧ (A ++ [a, b, c, d, e])[n * 5 + 2]? = some c ∧ ∀ x, (A ++ [a, b, c, d, e]).set (n * 5 + 2) x = A ++ [a, b, x, d, e] := by
  refine ⟨?_, ?_, fun x => ?_⟩
  · rw [← hA]; simp
  · rw [List.getElem?_append_right (by omega), hA]; simp
  · rw [List.set_append_right _ _ (by omega), hA]; simp

set_option maxHeartbeats 1000000 in
theorem code_ok (ps : List Pa) (film : Int) (i j : Nat) (H : Heap) (h : BdH H i j ps) : CallOk Try.prog 88 [.ptr i 0 0, .int .i64 film] H (.tup []) (tw H i j (bb j (addC ps film).length) (pb (addC ps film))) := by
  obtain ⟨hi, hj, hne, hlen, hn⟩ := h
  unfold bb at hi
  unfold pb at hj
  have hil : i < H.length := (List.getElem?_eq_some_iff.1 hi).1
  have hjl : j < H.length := (List.getElem?_eq_some_iff.1 hj).1
  have hpl := pal_len ps
  have hji : ∀ B, (H.set j B)[i]? = H[i]? := fun B => List.getElem?_set_ne (by omega)
  have hjj : ∀ B, (H.set j B)[j]? = some B := fun B => by simp [hjl]
  refine CallOk.body (F0 := [(0, .ptr i 0 0), (1, .int .i64 film)]) Try.func88 rfl Try.ntmps88 Try.results88 rfl (by kernel_rfl) rfl ?_
  rcases snoc_ex ps with hps | ⟨q, p, hps⟩
  · subst hps
    have e0 : addC [] film = [⟨false, film, 1, [], 0⟩] := rfl
    rw [e0]
    (repeat refine PW.seq ?_); refine PW.rg rfl fun K hK => ?_; simp (maxSteps := 3000000) (disch := omega) only [go_sem, ↓reduceIte, reduceCtorEq, pappend, plen, hi, hj]; refine hK _ _ ?_; clear hK K
    (repeat refine PW.seq ?_); refine PW.rg rfl fun K hK => ?_; simp (maxSteps := 3000000) (disch := omega) only [go_sem, ↓reduceIte, reduceCtorEq, pappend, plen, hi, hj]; refine hK _ _ ?_; clear hK K
    (repeat refine PW.seq ?_); refine PW.cond (t := _) rfl (fun h => ?_) (fun h => ?_)
    · cases h
    refine PW.skip ?_
    (repeat refine PW.seq ?_); refine PW.rg rfl fun K hK => ?_; simp (maxSteps := 3000000) (disch := omega) only [go_sem, ↓reduceIte, reduceCtorEq, pappend, plen, hi, hj, hji, hjj, List.flatMap_nil]; refine hK _ _ ?_; clear hK K
    refine ⟨_, rfl, .inl ⟨rfl, ?_⟩⟩
    unfold tw
    rw [List.set_comm _ _ hne]
    rfl
  · have hl : ps.length = q.length + 1 := by rw [hps]; simp
    have hA := pal_len q
    obtain ⟨g0, g2, s2⟩ := five_at (q.flatMap pac) q.length hA (.bool p.cp) (.int .i64 p.film) (.int .i64 p.len) (.str p.m) (.int .i64 p.fr)
    have hcat : ps.flatMap pac = q.flatMap pac ++ [.bool p.cp, .int .i64 p.film, .int .i64 p.len, .str p.m, .int .i64 p.fr] := by rw [hps, pal_snoc]
    have hp := hlen p (by rw [hps]; simp)
    have e1 : ((q.length + 1 : Nat) : Int) - 1 = (q.length : Int) := by omega
    rw [hcat] at hpl
    rw [hl] at hi hj hn hpl
    rw [hcat] at hj
    (repeat refine PW.seq ?_); refine PW.rg rfl fun K hK => ?_; simp (maxSteps := 3000000) (disch := omega) only [go_sem, ↓reduceIte, reduceCtorEq, pappend, plen, hi, hj]; refine hK _ _ ?_; clear hK K
    (repeat refine PW.seq ?_); refine PW.rg rfl fun K hK => ?_; simp (maxSteps := 3000000) (disch := omega) only [go_sem, ↓reduceIte, reduceCtorEq, pappend, plen, hi, hj, hpl, g0, e1]; refine hK _ _ ?_; clear hK K
    (repeat refine PW.seq ?_); refine PW.cond (t := _) rfl (fun h => ?_) (fun h => ?_)
    · have hc : p.cp = false := by simpa using h
      have e0 : addC ps film = q ++ [{ p with len := p.len + 1 }] := by
        unfold addC
        rw [hps, lastC_snoc, bump_snoc]
        simp [hc]
      rw [e0]
      (repeat refine PW.seq ?_); refine PW.rg rfl fun K hK => ?_; simp (maxSteps := 3000000) (disch := omega) only [go_sem, ↓reduceIte, reduceCtorEq, pappend, plen, hi, hj, hpl, g2, s2, e1]; refine hK _ _ ?_; clear hK K
      refine PW.ret ⟨.tup [], by simp (maxSteps := 3000000) (disch := omega) only [go_sem, ↓reduceIte, reduceCtorEq, pappend, plen, presults, presult, List.mapM_cons, List.mapM_nil, Option.pure_def, Option.bind_eq_bind, Option.bind_some, Array.toList], ?_⟩
      refine .inl ⟨rfl, ?_⟩
      unfold tw bb pb
      rw [pal_snoc]
      simp only [List.length_append, List.length_cons, List.length_nil, Nat.zero_add]
      rw [set_id hi]
    · have hc : p.cp = true := by simpa using h
      have e0 : addC ps film = ps ++ [(⟨false, film, 1, [], 0⟩ : Pa)] := by
        unfold addC
        rw [hps, lastC_snoc]
        simp [hc]
      rw [e0]
      refine PW.skip ?_
      (repeat refine PW.seq ?_); refine PW.rg rfl fun K hK => ?_; simp (maxSteps := 3000000) (disch := omega) only [go_sem, ↓reduceIte, reduceCtorEq, pappend, plen, hi, hj, hji, hjj, hpl]; refine hK _ _ ?_; clear hK K
      refine ⟨_, rfl, .inl ⟨rfl, ?_⟩⟩
      unfold tw bb pb
      rw [pal_snoc, hcat, List.set_comm _ _ hne]
      have e9 : q.length * 5 + 10 = (q.length + 1 + 1) * 5 := by omega
      simp [hl, -List.length_flatMap, hA, e9]

theorem tw_sc {H : Heap} {i j : Nat} {A B : Blk} (hA : ∀ x ∈ A.cells, Scoped H.length x) (hB : ∀ x ∈ B.cells, Scoped H.length x) (h : HSc H) : HSc (tw H i j A B) :=
  HSc.set (HSc.set h hA) (by rw [List.length_set]; exact hB)
theorem pb_sc (n : Nat) (ps : List Pa) : ∀ x ∈ (pb ps).cells, Scoped n x := pal_sc n ps
theorem bb_sc (n j k : Nat) (h : j < n) : ∀ x ∈ (bb j k).cells, Scoped n x := fun x hx => by
  simp only [bb, List.mem_singleton] at hx
  rw [hx]; exact .msl h

set_option maxHeartbeats 2000000 in
theorem copyB_ok (ps : List Pa) (film : Int) (c : Bool) (m : List UInt8) (n k : Int) (jn : Bool) (i j : Nat) (H : Heap) (h : BdH H i j ps) (hjn : jn = true → ps ≠ []) : CallOk Try.prog 127 [.ptr i 0 0, .int .i64 film, .agg [.bool c, .str m, .int .i64 n, .int .i64 k], .bool jn] H (.tup []) (tw H i j (bb j (addK ps film m n jn).length) (pb (addK ps film m n jn))) := by
  obtain ⟨hi, hj, hne, hlen, hn⟩ := h
  unfold bb at hi
  unfold pb at hj
  have hil : i < H.length := (List.getElem?_eq_some_iff.1 hi).1
  have hjl : j < H.length := (List.getElem?_eq_some_iff.1 hj).1
  have hpl := pal_len ps
  have hi1 : ∀ K, (H ++ K)[i]? = H[i]? := fun K => List.getElem?_append_left hil
  have hj1 : ∀ K, (H ++ K)[j]? = H[j]? := fun K => List.getElem?_append_left hjl
  have hji : ∀ K B, ((H ++ K).set j B)[i]? = H[i]? := fun K B => by rw [List.getElem?_set_ne (by omega)]; exact hi1 K
  have hjj : ∀ K B, ((H ++ K).set j B)[j]? = some B := fun K B => by rw [List.getElem?_set_self (by simp; omega)]
  have fin : ∀ ps' K, Fin H (.tup []) (tw H i j (bb j ps'.length) (pb ps')) (.tup []) (tw H i j (bb j ps'.length) (pb ps') ++ K) := fun ps' K =>
    Fin.cut rfl (by rw [tw_len]) (tw_sc (bb_sc _ _ _ hjl) (pb_sc _ _)) (.id (.tup (by simp)))
  refine CallOk.body (F0 := [(0, .ptr i 0 0), (1, .int .i64 film), (2, .agg [.bool c, .str m, .int .i64 n, .int .i64 k]), (3, .bool jn)]) Try.func127 rfl Try.ntmps127 Try.results127 rfl (by kernel_rfl) rfl ?_
  (repeat refine PW.seq ?_); refine PW.rg rfl fun K hK => ?_; simp (maxSteps := 3000000) (disch := omega) only [go_sem, ↓reduceIte, reduceCtorEq, pappend, plen]; refine hK _ _ ?_; clear hK K
  (repeat refine PW.seq ?_); refine PW.rg rfl fun K hK => ?_; simp (maxSteps := 3000000) (disch := omega) only [go_sem, ↓reduceIte, reduceCtorEq, pappend, plen]; refine hK _ _ ?_; clear hK K
  (repeat refine PW.seq ?_); refine PW.cond (t := _) rfl (fun h => ?_) (fun h => ?_)
  · rcases snoc_ex ps with hps | ⟨q, p, hps⟩
    · exact absurd hps (hjn h)
    have hl : ps.length = q.length + 1 := by rw [hps]; simp
    have hA := pal_len q
    obtain ⟨g0, g2, s2⟩ := five_at (q.flatMap pac) q.length hA (.bool p.cp) (.int .i64 p.film) (.int .i64 p.len) (.str p.m) (.int .i64 p.fr)
    have hcat : ps.flatMap pac = q.flatMap pac ++ [.bool p.cp, .int .i64 p.film, .int .i64 p.len, .str p.m, .int .i64 p.fr] := by rw [hps, pal_snoc]
    have hp := hlen p (by rw [hps]; simp)
    have e1 : ((q.length + 1 : Nat) : Int) - 1 = (q.length : Int) := by omega
    have e0 : addK ps film m n jn = q ++ [{ p with len := p.len + 1 }] := by
      unfold addK
      rw [h, hps, bump_snoc]
      simp
    rw [hcat] at hpl
    rw [hl] at hi hj hn hpl
    rw [hcat] at hj
    have fin' := fin (addK ps film m n jn)
    rw [e0] at fin' ⊢
    (repeat refine PW.seq ?_); refine PW.drawi [j] [(12, [0]), (16, [0]), (19, [0]), (20, [0]), (23, [0]), (24, [0])] [] [] mix (by kernel_rfl) (by simp <;> omega) fun K hK => ?_
    simp (maxSteps := 3000000) (disch := omega) only [go_sem, ↓reduceIte, reduceCtorEq, pappend, plen, hi1, hj1, hi, hj, hpl, g2, s2, e1]
    refine hK _ _ ?_; clear hK K
    refine PW.ret ⟨_, rfl, ?_⟩
    have e7 := fin' [⟨155, 0, [.bool c, .str m, .int .i64 n, .int .i64 k]⟩]
    unfold tw bb pb at e7 ⊢
    simp only [pal_snoc, List.length_append, List.length_cons, List.length_nil, Nat.zero_add] at e7 ⊢
    rw [set_id hi] at e7 ⊢
    rw [List.set_append_left _ _ hjl]
    exact e7
  · have e0 : addK ps film m n jn = ps ++ [(⟨true, film, 1, m, n⟩ : Pa)] := by
      unfold addK
      rw [h]
      rfl
    have fin' := fin (addK ps film m n jn)
    rw [e0] at fin' ⊢
    refine PW.skip ?_
    (repeat refine PW.seq ?_); refine PW.drawi [j, i] [(29, [0]), (37, [0]), (0, [1]), (25, [1]), (26, [1]), (27, [1]), (28, [1]), (38, [1]), (39, [1])] [] [] mix (by kernel_rfl) (by simp <;> omega) fun K hK => ?_
    simp (maxSteps := 3000000) (disch := omega) only [go_sem, ↓reduceIte, reduceCtorEq, pappend, plen, hi1, hj1, hi, hj, hpl, hji, hjj]
    refine hK _ _ ?_; clear hK K
    refine ⟨_, rfl, ?_⟩
    have e7 := fin' [⟨155, 0, [.bool c, .str m, .int .i64 n, .int .i64 k]⟩]
    have e9 : (ps.flatMap pac).length + (1 + 1 + 1 + 1 + 1) = (ps.length + 1) * 5 := by rw [hpl]; omega
    unfold tw bb pb at e7 ⊢
    simp only [pal_snoc, List.length_append, List.length_cons, List.length_nil, Nat.zero_add] at e7 ⊢
    rw [e9, List.set_append_left _ _ hjl, List.set_append_left _ _ (by rw [List.length_set]; exact hil), List.set_comm _ _ (by omega : j ≠ i)]
    exact e7

end Go.Proofs.Ytnjnikafhbholaa.Sc
