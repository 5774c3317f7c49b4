/-
  Contracts of chapter 12: the assembler of frames.
-/
import Derived.Test.YtahomnplappbpaaGreatDoorYb
import Derived.Test.YtahomnplappbpaaGreatDoorVz
import Derived.Test.YtahomnplappbpaaGreatDoorPmF
namespace Go.Proofs.YtahomnplappbpaaGreatDoor.Sc
set_option linter.all false
set_option linter.unusedVariables false
set_option linter.unusedSimpArgs false
open Pm Ty Go.RowKit

theorem lead_ok (h : Pi) (H : Heap) : CallOk Tryz.prog 252 [.agg (pic h)] H (.bool (leadP h)) H := by
  obtain ⟨ty, st, od, tf, rp, al⟩ := h
  refine CallOk.body (F0 := [(0, .agg (pic ⟨ty, st, od, tf, rp, al⟩))]) Tryz.func252 rfl Tryz.ntmps252 Tryz.results252 rfl (by kernel_rfl) rfl ?_
  (repeat' (first | refine PW.seq ?_ | refine PW.skip ?_ | refine PW.block ?_ | (refine PW.rg rfl fun K hK => ?_; simp (maxSteps := 3000000) (disch := omega) only [go_sem, ↓reduceIte, reduceCtorEq, pappend, plen, pic]) | (refine PW.draw mix (by kernel_rfl) fun K hK => ?_; simp (maxSteps := 3000000) (disch := omega) only [go_sem, ↓reduceIte, reduceCtorEq, pappend, plen, pic]) | (refine PW.drawg mix (by kernel_rfl) fun K hK => ?_; simp (maxSteps := 3000000) (disch := omega) only [go_sem, ↓reduceIte, reduceCtorEq, pappend, plen, pic]) | (refine PW.drawt [] [] mix (by kernel_rfl) fun K hK => ?_; simp (maxSteps := 3000000) (disch := omega) only [go_sem, ↓reduceIte, reduceCtorEq, pappend, plen, pic]) | ((first | refine VO_cond (fun h => ?_) (fun h => ?_) | refine VOd_cond (fun h => ?_) (fun h => ?_) | refine VOg_cond (fun h => ?_) (fun h => ?_) | refine VOh_cond (fun h => ?_) (fun h => ?_) | refine VOi_cond (fun h => ?_) (fun h => ?_) | refine And.intro (fun h => ?_) (fun h => ?_)) <;> (try simp only [Bool.not_eq_true', Bool.not_eq_false', decide_eq_true_eq, decide_eq_false_iff_not] at h) <;> simp (maxSteps := 3000000) (disch := omega) only [go_sem, ↓reduceIte, reduceCtorEq, pappend, plen, pic, h]) | (refine hK _ _ ?_; clear hK K) | (refine PW.cond (t := _) rfl (fun h => ?_) (fun h => ?_) <;> (try (cases h; done)) <;> (try simp only [Bool.not_eq_true', Bool.not_eq_false', decide_eq_true_eq, decide_eq_false_iff_not] at h))))
  all_goals ((refine PW.ret ⟨_, rfl, ?_⟩; first | refine .inl ⟨?_, rfl⟩ | refine Fin.base (.id' ?_ (.bool _)) | refine Fin.base (.id' ?_ (.int _ _))); (simp_all [leadP, slot, Nat.beq] <;> first | rfl | omega | (rw [Bool.eq_iff_iff]; simp; done) | (rw [Bool.eq_iff_iff]; simp; omega)))
set_option maxHeartbeats 4000000 in
theorem pairP_ok (a b : Pi) (H : Heap) : CallOk Tryz.prog 251 [.agg (pic a), .agg (pic b)] H (.bool (pairP a b)) H := by
  obtain ⟨ty, st, od, tf, rp, al⟩ := a
  obtain ⟨ty', st', od', tf', rp', al'⟩ := b
  refine CallOk.body (F0 := [(0, .agg (pic ⟨ty, st, od, tf, rp, al⟩)), (1, .agg (pic ⟨ty', st', od', tf', rp', al'⟩))]) Tryz.func251 rfl Tryz.ntmps251 Tryz.results251 rfl (by kernel_rfl) rfl ?_
  (repeat' (first | refine PW.seq ?_ | refine PW.skip ?_ | refine PW.block ?_ | (refine PW.rg rfl fun K hK => ?_; simp (maxSteps := 3000000) (disch := omega) only [go_sem, ↓reduceIte, reduceCtorEq, pappend, plen, pic]) | (refine PW.draw mix (by kernel_rfl) fun K hK => ?_; simp (maxSteps := 3000000) (disch := omega) only [go_sem, ↓reduceIte, reduceCtorEq, pappend, plen, pic]) | (refine PW.drawg mix (by kernel_rfl) fun K hK => ?_; simp (maxSteps := 3000000) (disch := omega) only [go_sem, ↓reduceIte, reduceCtorEq, pappend, plen, pic]) | (refine PW.drawt [] [] mix (by kernel_rfl) fun K hK => ?_; simp (maxSteps := 3000000) (disch := omega) only [go_sem, ↓reduceIte, reduceCtorEq, pappend, plen, pic]) | ((first | refine VO_cond (fun h => ?_) (fun h => ?_) | refine VOd_cond (fun h => ?_) (fun h => ?_) | refine VOg_cond (fun h => ?_) (fun h => ?_) | refine VOh_cond (fun h => ?_) (fun h => ?_) | refine VOi_cond (fun h => ?_) (fun h => ?_) | refine And.intro (fun h => ?_) (fun h => ?_)) <;> (try simp only [Bool.not_eq_true', Bool.not_eq_false', decide_eq_true_eq, decide_eq_false_iff_not] at h) <;> simp (maxSteps := 3000000) (disch := omega) only [go_sem, ↓reduceIte, reduceCtorEq, pappend, plen, pic, h]) | (refine hK _ _ ?_; clear hK K) | (refine PW.cond (t := _) rfl (fun h => ?_) (fun h => ?_) <;> (try (cases h; done)) <;> (try simp only [Bool.not_eq_true', Bool.not_eq_false', decide_eq_true_eq, decide_eq_false_iff_not] at h))))
  all_goals ((refine PW.ret ⟨_, rfl, ?_⟩; first | refine .inl ⟨?_, rfl⟩ | refine Fin.base (.id' ?_ (.bool _)) | refine Fin.base (.id' ?_ (.int _ _))); simp_all [pairP, slot, Nat.beq])
  all_goals grind
def asc (a : As) : List PV := sqc a.sq ++ [.bool a.kn, .int .i64 a.op, .bool a.rs, .int .i64 a.lk]
def asB (a : As) : Blk := ⟨220, 0, asc a⟩
theorem asc_len (a : As) (h : SqL a.sq) : (asc a).length = 139 := by
  simp only [asc, List.length_append, sqc_len _ h, List.length_cons, List.length_nil]
theorem asc_at (a : As) (h : SqL a.sq) (n : Nat) : (asc a)[135 + n]? = [.bool a.kn, .int .i64 a.op, .bool a.rs, .int .i64 a.lk][n]? := by
  unfold asc
  rw [List.getElem?_append_right (by rw [sqc_len _ h]; omega), sqc_len _ h, Nat.add_sub_cancel_left]
theorem asc_kn (a : As) (h : SqL a.sq) : (asc a)[135]? = some (.bool a.kn) := asc_at a h 0
theorem asc_op (a : As) (h : SqL a.sq) : (asc a)[136]? = some (.int .i64 a.op) := asc_at a h 1
theorem asc_rs (a : As) (h : SqL a.sq) : (asc a)[137]? = some (.bool a.rs) := asc_at a h 2
theorem asc_lk (a : As) (h : SqL a.sq) : (asc a)[138]? = some (.int .i64 a.lk) := asc_at a h 3
theorem asc_sq (a : As) (h : SqL a.sq) : List.take 135 (asc a) = sqc a.sq := List.take_left' (sqc_len _ h)
theorem asc_set (a : As) (h : SqL a.sq) (n : Nat) (v : PV) : (asc a).set (135 + n) v = sqc a.sq ++ [.bool a.kn, .int .i64 a.op, .bool a.rs, .int .i64 a.lk].set n v := by
  unfold asc
  rw [List.set_append_right _ _ (by rw [sqc_len _ h]; omega), sqc_len _ h, Nat.add_sub_cancel_left]
theorem asc_skn (a : As) (h : SqL a.sq) (v : Bool) : (asc a).set 135 (.bool v) = asc { a with kn := v } := asc_set a h 0 _
theorem asc_sop (a : As) (h : SqL a.sq) (v : Int) : (asc a).set 136 (.int .i64 v) = asc { a with op := v } := asc_set a h 1 _
theorem asc_srs (a : As) (h : SqL a.sq) (v : Bool) : (asc a).set 137 (.bool v) = asc { a with rs := v } := asc_set a h 2 _
theorem asc_slk (a : As) (h : SqL a.sq) (v : Int) : (asc a).set 138 (.int .i64 v) = asc { a with lk := v } := asc_set a h 3 _
theorem asc_cell (a : As) : (asc a).all PV.cell = true := by simp [asc, sqc_cell, PV.cell]
theorem asc_sc (n : Nat) (a : As) : ∀ x ∈ asc a, Scoped n x := fun x hx => by
  simp only [asc, List.mem_append, List.mem_cons, List.not_mem_nil, or_false] at hx
  rcases hx with hx | rfl | rfl | rfl | rfl
  · exact sqc_scoped _ _ x hx
  · exact .bool _
  · exact .int _ _
  · exact .bool _
  · exact .int _ _
def fm0 : Fm := ⟨0, 0, sq0, pi0, false, 0⟩
theorem clear_ok (a : As) (i : Nat) (H : Heap) (h : H[i]? = some (asB a)) (ha : SqL a.sq) : CallOk Tryz.prog 199 [.ptr i 0 0] H (.tup []) (H.set i (asB a.clr)) := by
  have hil : i < H.length := (List.getElem?_eq_some_iff.1 h).1
  unfold asB at h
  have hs : ∀ B, (H.set i B)[i]? = some B := fun B => by simp [hil]
  have l1 := asc_len a ha
  have l2 := asc_len { a with rs := true } ha
  have s1 := asc_srs a ha true
  have s2 := asc_slk { a with rs := true } ha (-1)
  refine CallOk.body (F0 := [(0, .ptr i 0 0)]) Tryz.func199 rfl Tryz.ntmps199 Tryz.results199 rfl (by kernel_rfl) rfl ?_
  (repeat refine PW.seq ?_); refine PW.rg rfl fun K hK => ?_; simp (maxSteps := 3000000) (disch := omega) only [go_sem, ↓reduceIte, reduceCtorEq, pappend, plen, h, hs, l1, l2, s1, s2, List.set_set]; refine hK _ _ ?_; clear hK K
  refine ⟨_, rfl, .inl ⟨rfl, ?_⟩⟩
  rfl
theorem fmc_sc (n : Nat) (f : Fm) : ∀ x ∈ fmc f, Scoped n x := fun x hx => by
  simp only [fmc, pic, List.mem_append, List.mem_cons, List.not_mem_nil, or_false] at hx
  rcases hx with rfl | rfl | hx | (rfl | rfl | rfl | rfl | rfl | rfl) | rfl | rfl
  · exact .int _ _
  · exact .int _ _
  · exact sqc_scoped _ _ x hx
  · exact .int _ _
  · exact .int _ _
  · exact .int _ _
  · exact .bool _
  · exact .bool _
  · exact .bool _
  · exact .bool _
  · exact .int _ _
theorem as_fin (H K : Heap) (i : Nat) (a : As) (v : PV) (hi : i < H.length) (hv : Scoped H.length v) : Fin H v (H.set i (asB a)) v (H.set i (asB a) ++ K) :=
  Fin.cut rfl (by simp) (fun h => HSc.set h (asc_sc _ _)) (.id (by rw [List.length_set]; exact hv))
set_option maxHeartbeats 2000000 in
set_option maxRecDepth 100000 in
theorem cmp_ok (a : As) (f l : Int) (h : Pi) (i : Nat) (H : Heap) (hi : H[i]? = some (asB a)) (ha : SqL a.sq) : CallOk Tryz.prog 250 [.ptr i 0 0, .int .i64 f, .int .i64 l, .agg (pic h)] H (.agg (fmc ⟨f, l, a.sq, h, a.rs, a.lk⟩)) (H.set i (asB { a with rs := false, lk := -1 })) := by
  have hil : i < H.length := (List.getElem?_eq_some_iff.1 hi).1
  unfold asB at hi
  have hi1 : ∀ K, (H ++ K)[i]? = H[i]? := fun K => List.getElem?_append_left hil
  have hs : ∀ K B, ((H ++ K).set i B)[i]? = some B := fun K B => by rw [List.getElem?_set_self (by simp; omega)]
  have l1 := asc_len a ha
  have l2 := asc_len { a with rs := false } ha
  have s1 := asc_srs a ha false
  have s2 := asc_slk { a with rs := false } ha (-1)
  have t1 := asc_sq a ha
  have t2 := asc_rs a ha
  have t3 := asc_lk a ha
  have p1 : (pic h).length = 6 := rfl
  have p2 : (pic h).all PV.cell = true := rfl
  have p3 : List.take 6 (pic h) = pic h := rfl
  have q1 := sqc_len a.sq ha
  have q2 := sqc_cell a.sq
  have q3 : ∀ X, List.take 135 (sqc a.sq ++ X) = sqc a.sq := fun X => List.take_left' q1
  have q4 : ∀ X n, List.drop (135 + n) (sqc a.sq ++ X) = List.drop n X := fun X n => by rw [← List.drop_drop, List.drop_left' q1]
  have q5 : ∀ X n, List.take (135 + n) (sqc a.sq ++ X) = sqc a.sq ++ List.take n X := fun X n => by rw [List.take_append, q1, List.take_of_length_le (by omega), Nat.add_sub_cancel_left]
  have q6 : ∀ X, List.drop 141 (sqc a.sq ++ X) = List.drop 6 X := fun X => q4 X 6
  have q7 : ∀ X, List.drop 142 (sqc a.sq ++ X) = List.drop 7 X := fun X => q4 X 7
  have q8 : ∀ X, List.drop 143 (sqc a.sq ++ X) = List.drop 8 X := fun X => q4 X 8
  have q9 : ∀ X, List.take 141 (sqc a.sq ++ X) = sqc a.sq ++ List.take 6 X := fun X => q5 X 6
  have q10 : ∀ X, List.take 142 (sqc a.sq ++ X) = sqc a.sq ++ List.take 7 X := fun X => q5 X 7
  refine CallOk.body (F0 := [(0, .ptr i 0 0), (1, .int .i64 f), (2, .int .i64 l), (3, .agg (pic h))]) Tryz.func250 rfl Tryz.ntmps250 Tryz.results250 rfl (by kernel_rfl) rfl ?_
  (repeat refine PW.seq ?_); refine PW.rg rfl fun K hK => ?_; simp (maxSteps := 3000000) (disch := omega) only [go_sem, ↓reduceIte, reduceCtorEq, pappend, plen, p2]; refine hK _ _ ?_; clear hK K
  (repeat refine PW.seq ?_); refine PW.drawg mix (by kernel_rfl) fun K hK => ?_; simp (maxSteps := 3000000) (disch := omega) only [go_sem, ↓reduceIte, reduceCtorEq, pappend, plen, hi1, hi, l1, t1, t2, t3, p1, p2, p3, q1, q2, q3, q6, q7, q8, q9, q10, List.length_append, pic]; refine hK _ _ ?_; clear hK K
  obtain ⟨W, hW⟩ : ∃ W, W = fmc ⟨f, l, a.sq, h, a.rs, a.lk⟩ := ⟨_, rfl⟩
  refine PW.at [0, 8, 9] (?_ : PW _ _ _ [(0, .ptr i 0 0), (8, .ptr (H.length + 1) 0 0), (9, .ptr (H.length + 2) 0 0)] (H ++ [⟨70, 0, pic h⟩, ⟨152, 0, fmc fm0⟩, ⟨152, 0, W⟩]) _) rfl (by rw [hW]; rfl)
  have w1 : W.length = 145 := by rw [hW]; exact fmc_len _ ha
  have w2 : List.take 145 W = W := List.take_of_length_le (by omega)
  have w3 : W.all PV.cell = true := by rw [hW]; exact fmc_cell _
  have z1 : (fmc fm0).length = 145 := rfl
  have z2 : ∀ X, List.drop 145 (fmc fm0) = X ↔ [] = X := fun X => by rw [show List.drop 145 (fmc fm0) = [] from rfl]
  have z3 : List.drop 145 (fmc fm0) = [] := rfl
  (repeat refine PW.seq ?_); refine PW.rg rfl fun K hK => ?_; simp (maxSteps := 3000000) (disch := omega) only [go_sem, ↓reduceIte, reduceCtorEq, pappend, plen, hi1, hi, hs, l1, l2, s1, s2, List.set_set]; refine hK _ _ ?_; clear hK K
  refine PW.at [8, 9] (?_ : PW _ _ _ [(8, .ptr (H.length + 1) 0 0), (9, .ptr (H.length + 2) 0 0)] (H.set i (asB { a with rs := false, lk := -1 }) ++ [⟨70, 0, pic h⟩, ⟨152, 0, fmc fm0⟩, ⟨152, 0, W⟩]) _) rfl (by rw [List.set_append_left _ _ hil]; rfl)
  have hsl : (H.set i (asB { a with rs := false, lk := -1 })).length = H.length := by simp
  have af := fun K => as_fin H K i { a with rs := false, lk := -1 } (.agg (fmc ⟨f, l, a.sq, h, a.rs, a.lk⟩)) hil (.agg fun j x hx => fmc_sc _ _ x (List.mem_of_getElem? hx))
  generalize H.set i (asB { a with rs := false, lk := -1 }) = X at *
  rw [← hsl]
  (repeat refine PW.seq ?_); refine PW.rg rfl fun K hK => ?_; simp (maxSteps := 3000000) (disch := omega) only [go_sem, ↓reduceIte, reduceCtorEq, pappend, plen, w1, w2, w3, z1, z3, List.append_nil]; refine hK _ _ ?_; clear hK K
  refine PW.ret ⟨.agg W, by simp (maxSteps := 3000000) (disch := omega) only [go_sem, ↓reduceIte, reduceCtorEq, pappend, plen, presults, presult, List.mapM_cons, List.mapM_nil, Option.pure_def, Option.bind_eq_bind, Option.bind_some, Array.toList, w1, w2], ?_⟩
  rw [hW]
  exact af _

theorem itL_pic (L : List It) (hL : ∀ x ∈ L, SqOk x.s) (k : Nat) (hk : k < L.length) : List.take 6 (List.drop (k * 148 + 139) (itL L)) = pic L[k].p := by
  rw [itL_sub L hL k 139 6 hk (by omega)]
  exact itc_p _ (hL _ (List.getElem_mem hk))
theorem hdA_nat (L : List It) (k : Nat) (hk : k < L.length) : hdA L (k : Int) = L[k].p := by
  unfold hdA
  rw [Int.toNat_natCast, List.getElem?_eq_getElem hk]
def fmO : Option Fm → PV
  | none => .tup [.agg (fmc fm0), .bool false]
  | some f => .tup [.agg (fmc f), .bool true]
theorem fmO_sc (n : Nat) (r : Option Fm) : Scoped n (fmO r) := by
  have h : ∀ f b, Scoped n (.tup [.agg (fmc f), .bool b]) := fun f b =>   .tup fun j x hx => by
    have hx := List.mem_of_getElem? hx
    simp only [List.mem_cons, List.not_mem_nil, or_false] at hx
    rcases hx with rfl | rfl
    · exact .agg fun j x hx => fmc_sc _ _ x (List.mem_of_getElem? hx)
    · exact .bool _
  cases r <;> exact h _ _
/-- The open field is an item of the list. -/
def OpR (L : List It) (n : Int) : Prop := n = -1 ∨ ∃ k : Nat, n = (k : Int) ∧ k < L.length
set_option maxHeartbeats 4000000 in
set_option maxRecDepth 100000 in
theorem aspic_ok (L : List It) (fl : Bool) (k : Nat) (hk : k < L.length) (hL : ∀ x ∈ L, SqOk x.s) (a : As) (i : Nat) (H : Heap) (hi : H[i]? = some (asB a)) (ha : SqOk a.sq) (hop : OpR L a.op) :
    CallOk Tryz.prog 198 [.ptr i 0 0, .slice (itL L) L.length fl, .int .i64 (k : Int)] H (fmO (a.pic L k L[k].p).2) (H.set i (asB (a.pic L k L[k].p).1)) := by
  have hil : i < H.length := (List.getElem?_eq_some_iff.1 hi).1
  have ha' := ha.toL
  unfold asB at hi
  have hi1 : ∀ K, (H ++ K)[i]? = H[i]? := fun K => List.getElem?_append_left hil
  have hs : ∀ K B, ((H ++ K).set i B)[i]? = some B := fun K B => by rw [List.getElem?_set_self (by simp; omega)]
  have l1 := asc_len a ha'
  have s1 := asc_sop a ha' (-1)
  have t1 := asc_op a ha'
  have ln := itL_len L hL
  have ip := itL_pic L hL k hk
  have pv := fun K => pvalid_ok a.sq L[k].p K ha
  have cm := fun f l (h : Pi) (X : Heap) (hX : X[i]? = some (asB { a with op := -1 })) => cmp_ok { a with op := -1 } f l h i X hX ha'
  have ld := fun K => lead_ok L[k].p K
  generalize hr : a.pic L k L[k].p = r
  unfold As.pic at hr
  generalize L[k].p = g at *
  have p1 : (pic g).length = 6 := rfl
  have p2 : (pic g).all PV.cell = true := rfl
  have p3 : List.take 6 (pic g) = pic g := rfl
  have p4 : (pic g)[1]? = some (.int .i64 g.st) := rfl
  have z1 : (fmc fm0).length = 145 := rfl
  have z3 : List.drop 145 (fmc fm0) = [] := rfl
  have z4 : List.take 145 (fmc fm0) = fmc fm0 := rfl
  have z5 : (fmc fm0).all PV.cell = true := rfl
  have p6 : List.drop 6 (pic g) = [] := rfl
  have af := fun b o K => as_fin H K i b (fmO o) hil (fmO_sc _ _)
  refine CallOk.body (F0 := [(0, .ptr i 0 0), (1, .slice (itL L) L.length fl), (2, .int .i64 (k : Int))]) Tryz.func198 rfl Tryz.ntmps198 Tryz.results198 rfl (by kernel_rfl) rfl ?_
  (repeat refine PW.seq ?_); refine PW.rg rfl fun K hK => ?_; simp (maxSteps := 3000000) (disch := omega) only [go_sem, ↓reduceIte, reduceCtorEq, pappend, plen]; refine hK _ _ ?_; clear hK K
  refine PW.at [0, 1, 2, 6, 7] (?_ : PW _ _ _ [(0, .ptr i 0 0), (1, .slice (itL L) L.length fl), (2, .int .i64 (k : Int)), (6, .ptr H.length 0 0), (7, .bool false)] (H ++ [⟨152, 0, fmc fm0⟩]) _) rfl rfl
  refine PW.view (Vs.place 70) ?_
  rw [List.append_assoc]
  (repeat refine PW.seq ?_); refine PW.drawi [H.length + 1] [(8, [0])] [(8, 0)] [] mix (by kernel_rfl) (by simp <;> omega) fun K hK => ?_
  simp (maxSteps := 3000000) (disch := omega) only [go_sem, ↓reduceIte, reduceCtorEq, pappend, plen, hi1, hi, t1, ln, ip, p1, p2, p3]
  refine hK _ _ ?_; clear hK K
  (repeat refine PW.seq ?_); refine PW.rg rfl fun K hK => ?_; simp (maxSteps := 3000000) (disch := omega) only [go_sem, ↓reduceIte, reduceCtorEq, pappend, plen, hi1, hi, hs, l1, s1]; refine hK _ _ ?_; clear hK K
  refine PW.at [0, 1, 2, 6, 7, 8, 9] (?_ : PW _ _ _ [(0, .ptr i 0 0), (1, .slice (itL L) L.length fl), (2, .int .i64 (k : Int)), (6, .ptr H.length 0 0), (7, .bool false), (8, .ptr (H.length + 1) 1 0), (9, .int .i64 a.op)] (H.set i (asB { a with op := -1 }) ++ [⟨152, 0, fmc fm0⟩, ⟨70, 1, pic g⟩]) _) rfl (by rw [List.set_append_left _ _ hil]; rfl)
  have hsl : (H.set i (asB { a with op := -1 })).length = H.length := by simp
  have af := fun b o K => as_fin H K i b (fmO o) hil (fmO_sc _ _)
  have hX0 : (H.set i (asB { a with op := -1 }))[i]? = some (asB { a with op := -1 }) := by simp [hil]
  have hX2 : ∀ b, (H.set i (asB { a with op := -1 })).set i (asB b) = H.set i (asB b) := fun b => by rw [List.set_set]
  generalize hXe : H.set i (asB { a with op := -1 }) = X at *
  have hX1 : ∀ K, (X ++ K)[i]? = some (asB { a with op := -1 }) := fun K => by rw [List.getElem?_append_left (by omega)]; exact hX0
  have hX3 : ∀ K b, (X ++ K).set i b = X.set i b ++ K := fun K b => List.set_append_left _ _ (by omega)
  rw [← hsl]
  unfold asB at hX1
  have u0 := asc_len { a with op := -1 } ha'
  have u1 := asc_sq { a with op := -1 } ha'
  have u2 := asc_kn { a with op := -1 } ha'
  dsimp only at u1 u2
  suffices hrest : PW Tryz.prog _ _ [(0, .ptr i 0 0), (1, .slice (itL L) L.length fl), (2, .int .i64 (k : Int)), (6, .ptr X.length 0 0), (7, .bool false), (8, .ptr (X.length + 1) 1 0), (9, .int .i64 a.op), (36, .bool (!(a.kn && pvalid a.sq g)))] (X ++ [⟨152, 0, fmc fm0⟩, ⟨70, 1, pic g⟩]) _ by
    cases hkn : a.kn with
    | false =>
      rw [hkn] at hrest
      have u3 : (asc { a with op := -1 })[135]? = some (.bool false) := u2.trans (by rw [hkn])
      (repeat refine PW.seq ?_); refine PW.drawg mix (by kernel_rfl) fun K hK => ?_; simp (maxSteps := 3000000) (disch := omega) only [go_sem, ↓reduceIte, reduceCtorEq, pappend, plen, hX1, u0, u1, u3]; refine hK _ _ ?_; clear hK K
      exact PW.at [0, 1, 2, 6, 7, 8, 9, 36] hrest rfl rfl
    | true =>
      rw [hkn] at hrest
      have u3 : (asc { a with op := -1 })[135]? = some (.bool true) := u2.trans (by rw [hkn])
      (repeat refine PW.seq ?_); refine PW.drawg mix (by kernel_rfl) fun K hK => ?_; simp (maxSteps := 3000000) (disch := omega) only [go_sem, ↓reduceIte, reduceCtorEq, pappend, plen, hX1, u0, u1, u3, p1, p2, p3]; refine VCz.call (fun _ => pv _) rfl ?_; simp (maxSteps := 3000000) (disch := omega) only [go_sem, ↓reduceIte, reduceCtorEq, pappend, plen]; refine hK _ _ ?_; clear hK K
      exact PW.at [0, 1, 2, 6, 7, 8, 9, 36] hrest rfl rfl
  have hX4 : ∀ K b, (X ++ K).set i (asB b) = H.set i (asB b) ++ K := fun K b => by rw [hX3, hX2]
  have hY0 : ∀ b F G, (H.set i (asB b) ++ [F, G])[X.length]? = some F := fun b F G => by rw [hsl, List.getElem?_append_right (by simp)]; simp
  have hY1 : ∀ b F G, (H.set i (asB b) ++ [F, G])[X.length + 1]? = some G := fun b F G => by rw [hsl, List.getElem?_append_right (by simp)]; simp
  have hYs : ∀ b F G B, (H.set i (asB b) ++ [F, G]).set X.length B = H.set i (asB b) ++ [B, G] := fun b F G B => by rw [hsl, List.set_append_right _ _ (by simp)]; simp
  have hret : ∀ b f v (Fx : Fr) (Y : Heap), slot Fx 6 = .ptr X.length 0 0 → slot Fx 7 = .bool v → Y = H.set i (asB b) ++ [⟨152, 0, fmc f⟩, ⟨70, 1, pic g⟩] → fmO r.2 = .tup [.agg (fmc f), .bool v] → b = r.1 → SqL f.sq → retQ Tryz.prog [.cell 6 152, .tmp 7] (Pm.Fin H (fmO r.2) (H.set i (asB r.1))) .ret Fx Y := fun b f v Fx Y h6 h7 e3 e1 e2 hf => by
    subst e3
    have w1 := fmc_len f hf
    have w2 : List.take 145 (fmc f) = fmc f := List.take_of_length_le (by omega)
    refine ⟨.tup [.agg (fmc f), .bool v], by simp (maxSteps := 3000000) (disch := omega) only [go_sem, ↓reduceIte, reduceCtorEq, pappend, plen, hY0, w1, w2, h6, h7, presults, presult, List.mapM_cons, List.mapM_nil, Option.pure_def, Option.bind_eq_bind, Option.bind_some], ?_⟩
    have := af b r.2 [⟨152, 0, fmc f⟩, ⟨70, 1, pic g⟩]
    rw [e1] at this ⊢
    rw [e2] at this ⊢
    exact this
  have hz : SqL fm0.sq := ⟨rfl, rfl⟩
  by_cases hv : (a.kn && pvalid a.sq g) = false
  · rw [if_pos hv] at hr
    rw [hv]
    (repeat refine PW.seq ?_); refine PW.cond (t := _) rfl (fun h => ?_) (fun h => ?_)
    rotate_left
    · cases h
    (repeat refine PW.seq ?_); refine PW.rg rfl fun K hK => ?_; simp (maxSteps := 3000000) (disch := omega) only [go_sem, ↓reduceIte, reduceCtorEq, pappend, plen, z1, z3, z5]; refine hK _ _ ?_; clear hK K
    refine PW.ret (hret { a with op := -1 } fm0 false _ _ rfl rfl ?_ ?_ ?_ hz)
    · rw [← hXe]; rfl
    · rw [← hr]; rfl
    · rw [← hr]
  rw [if_neg hv] at hr
  have hv' : (a.kn && pvalid a.sq g) = true := by simpa using hv
  rw [hv']
  (repeat refine PW.seq ?_); refine PW.cond (t := _) rfl (fun h => ?_) (fun h => ?_)
  · cases h
  refine PW.skip ?_
  (repeat refine PW.seq ?_); refine PW.block ?_
  (repeat refine PW.seq ?_); refine PW.rg rfl fun K hK => ?_; simp (maxSteps := 3000000) (disch := omega) only [go_sem, ↓reduceIte, reduceCtorEq, pappend, plen, p1, p4]; refine hK _ _ ?_; clear hK K
  by_cases h3 : g.st = 3
  · rw [if_pos h3] at hr
    (repeat refine PW.seq ?_); refine PW.cond (t := _) rfl (fun h => ?_) (fun h => ?_)
    rotate_left
    · simp [h3] at h
    have cm' := fun f l h K => cm f l h (X ++ K) (hX1 K)
    dsimp only at cm'
    simp only [hX4] at cm'
    have w1 := fmc_len ⟨(k : Int), (k : Int), a.sq, g, a.rs, a.lk⟩ ha'
    (repeat refine PW.seq ?_); refine PW.rg rfl fun K hK => ?_; simp (maxSteps := 3000000) (disch := omega) only [go_sem, ↓reduceIte, reduceCtorEq, pappend, plen, p1, p2, p3]; refine VCx.call (cm' _ _ _ _) rfl ?_; simp (maxSteps := 3000000) (disch := omega) only [go_sem, ↓reduceIte, reduceCtorEq, pappend, plen, hY0, hYs, z1, z3, w1, fmc_cell, List.append_nil]; refine hK _ _ ?_; clear hK K
    refine PW.ret (hret { a with op := -1, rs := false, lk := -1 } ⟨(k : Int), (k : Int), a.sq, g, a.rs, a.lk⟩ true _ _ rfl rfl ?_ ?_ ?_ ha')
    · rfl
    · rw [← hr]; rfl
    · rw [← hr]; rfl
  rw [if_neg h3] at hr
  (repeat refine PW.seq ?_); refine PW.cond (t := _) rfl (fun h => ?_) (fun h => ?_)
  · simp [h3] at h
  suffices hrest : ∀ b, (b = true ↔ (a.op ≠ -1 ∧ pairP (hdA L a.op) g = true)) → PW Tryz.prog _ _ [(0, .ptr i 0 0), (1, .slice (itL L) L.length fl), (2, .int .i64 (k : Int)), (6, .ptr X.length 0 0), (7, .bool false), (8, .ptr (X.length + 1) 1 0), (9, .int .i64 a.op), (47, .bool b)] (X ++ [⟨152, 0, fmc fm0⟩, ⟨70, 1, pic g⟩]) _ by
    rcases hop with ho | ⟨k2, ho, hk2⟩
    · have e0 : (a.op == -1) = true := by simp [ho]
      (repeat refine PW.seq ?_); refine PW.drawg mix (by kernel_rfl) fun K hK => ?_; simp (maxSteps := 3000000) (disch := omega) only [go_sem, ↓reduceIte, reduceCtorEq, pappend, plen, e0]; refine hK _ _ ?_; clear hK K
      exact PW.at [0, 1, 2, 6, 7, 8, 9, 47] (hrest false (by simp [ho])) rfl rfl
    · have e0 : ((k2 : Int) == -1) = false := by simp
      have ip2 := itL_pic L hL k2 hk2
      rw [ho, hdA_nat L k2 hk2] at hrest
      rw [ho]
      generalize L[k2].p = g2 at *
      have pr := fun K => pairP_ok g2 g K
      have y1 : (pic g2).length = 6 := rfl
      have y2 : (pic g2).all PV.cell = true := rfl
      (repeat refine PW.seq ?_); refine PW.drawg mix (by kernel_rfl) fun K hK => ?_; simp (maxSteps := 3000000) (disch := omega) only [go_sem, ↓reduceIte, reduceCtorEq, pappend, plen, e0, ln, ip2, p1, p2, p3, y1, y2]; refine VCz.call (fun _ => pr _) rfl ?_; simp (maxSteps := 3000000) (disch := omega) only [go_sem, ↓reduceIte, reduceCtorEq, pappend, plen]; refine hK _ _ ?_; clear hK K
      exact PW.at [0, 1, 2, 6, 7, 8, 9, 47] (hrest (pairP g2 g) (by simp)) rfl rfl
  intro b hb
  (repeat refine PW.seq ?_); refine PW.cond (t := _) rfl (fun h => ?_) (fun h => ?_)
  · subst h
    have ho := hb.1 rfl
    rw [if_pos ho] at hr
    obtain ⟨k2, ho2, hk2⟩ : ∃ k2 : Nat, a.op = (k2 : Int) ∧ k2 < L.length := by
      rcases hop with h | h
      · exact absurd h ho.1
      · exact h
    have ip2 := itL_pic L hL k2 hk2
    rw [ho2, hdA_nat L k2 hk2] at hr
    rw [ho2]
    generalize L[k2].p = g2 at *
    have y1 : (pic g2).length = 6 := rfl
    have y2 : (pic g2).all PV.cell = true := rfl
    have cm' := fun f l h K => cm f l h (X ++ K) (hX1 K)
    dsimp only at cm'
    simp only [hX4] at cm'
    have w1 := fmc_len ⟨(k2 : Int), (k : Int), a.sq, g2, a.rs, a.lk⟩ ha'
    (repeat refine PW.seq ?_); refine PW.rg rfl fun K hK => ?_; simp (maxSteps := 3000000) (disch := omega) only [go_sem, ↓reduceIte, reduceCtorEq, pappend, plen, ln, ip2, p1, p2, p3, y1, y2]; refine VCx.call (cm' _ _ _ _) rfl ?_; simp (maxSteps := 3000000) (disch := omega) only [go_sem, ↓reduceIte, reduceCtorEq, pappend, plen, hY0, hYs, z1, z3, w1, fmc_cell, List.append_nil]; refine hK _ _ ?_; clear hK K
    refine PW.ret (hret { a with op := -1, rs := false, lk := -1 } ⟨(k2 : Int), (k : Int), a.sq, g2, a.rs, a.lk⟩ true _ _ rfl rfl ?_ ?_ ?_ ha')
    · rfl
    · rw [← hr]; rfl
    · rw [← hr]; rfl
  · subst h
    rw [if_neg (fun h => by have := hb.2 h; cases this)] at hr
    (repeat refine PW.seq ?_); refine PW.rg rfl fun K hK => ?_; simp (maxSteps := 3000000) (disch := omega) only [go_sem, ↓reduceIte, reduceCtorEq, pappend, plen, p1, p2, p3]; refine VCx.call (ld _) rfl ?_; simp (maxSteps := 3000000) (disch := omega) only [go_sem, ↓reduceIte, reduceCtorEq, pappend, plen]; refine hK _ _ ?_; clear hK K
    cases hld : leadP g with
    | true =>
      rw [if_pos hld] at hr
      (repeat refine PW.seq ?_); refine PW.cond (t := _) rfl (fun h => ?_) (fun h => ?_)
      rotate_left
      · cases h
      have s3 := asc_sop { a with op := -1 } ha' (k : Int)
      dsimp only at s3
      (repeat refine PW.seq ?_); refine PW.rg rfl fun K hK => ?_; simp (maxSteps := 3000000) (disch := omega) only [go_sem, ↓reduceIte, reduceCtorEq, pappend, plen, hX1, u0, s3]; refine hK _ _ ?_; clear hK K
      refine PW.at [6, 7] (?_ : PW _ _ _ [(6, .ptr X.length 0 0), (7, .bool false)] (H.set i (asB { a with op := (k : Int) }) ++ [⟨152, 0, fmc fm0⟩, ⟨70, 1, pic g⟩]) _) rfl (hX4 _ { a with op := (k : Int) })
      (repeat refine PW.seq ?_); refine PW.rg rfl fun K hK => ?_; simp (maxSteps := 3000000) (disch := omega) only [go_sem, ↓reduceIte, reduceCtorEq, pappend, plen, hY0, hYs, z1, z3, z5]; refine hK _ _ ?_; clear hK K
      refine PW.ret (hret { a with op := (k : Int) } fm0 false _ _ rfl rfl ?_ ?_ ?_ hz)
      · rfl
      · rw [← hr]; rfl
      · rw [← hr]
    | false =>
      rw [if_neg (by rw [hld]; simp)] at hr
      (repeat refine PW.seq ?_); refine PW.cond (t := _) rfl (fun h => ?_) (fun h => ?_)
      · cases h
      refine PW.skip ?_
      (repeat refine PW.seq ?_); refine PW.rg rfl fun K hK => ?_; simp (maxSteps := 3000000) (disch := omega) only [go_sem, ↓reduceIte, reduceCtorEq, pappend, plen, z1, z3, z5]; refine hK _ _ ?_; clear hK K
      refine PW.ret (hret { a with op := -1 } fm0 false _ _ rfl rfl ?_ ?_ ?_ hz)
      · rw [← hXe]; rfl
      · rw [← hr]; rfl
      · rw [← hr]
