/-
  Contracts of chapter 31: Agrees, Usable.
-/
import Derived.Test.YtnjnikafhbholaaQs
import Derived.Test.YtnjnikafhbholaaPmZ
namespace Go.Proofs.Ytnjnikafhbholaa.Sc
set_option linter.all false
set_option linter.unusedVariables false
set_option linter.unusedSimpArgs false
open Pm Ty Go.RowKit

theorem bs_cells (p q : List UInt8) : (bs p ++ bs q).all PV.cell = true := by
  rw [List.all_eq_true]
  intro x hx
  rcases List.mem_append.1 hx with h | h <;> (obtain ⟨b, _, rfl⟩ := List.mem_map.1 h; rfl)
theorem agr_ok (s t : Sq) (H : Heap) (hs : SqL s) (ht : SqL t) : CallOk Try.prog 30 [.agg (sqc s), .agg (sqc t)] H (.bool (agr s t)) H := by
  obtain ⟨a1, a2, a3, a4, a5, a6, a7, p, q⟩ := s
  obtain ⟨b1, b2, b3, b4, b5, b6, b7, p', q'⟩ := t
  obtain ⟨h1, h2⟩ := hs
  obtain ⟨h3, h4⟩ := ht
  dsimp only at h1 h2 h3 h4
  have he := eqSx a1 a2 a3 a4 a5 a6 a7 p q b1 b2 b3 b4 b5 a6 a7 p' q' h1 h2 h3 h4
  have hr : agr ⟨a1, a2, a3, a4, a5, a6, a7, p, q⟩ ⟨b1, b2, b3, b4, b5, b6, b7, p', q'⟩ = sqE ⟨a1, a2, a3, a4, a5, a6, a7, p, q⟩ ⟨b1, b2, b3, b4, b5, a6, a7, p', q'⟩ := rfl
  rw [hr]
  have c1 := bs_cells p q
  have c2 := bs_cells p' q'
  have l1 : (bs p ++ bs q).length = 128 := by rw [List.length_append, length_bs, length_bs]; omega
  have l2 : (bs p' ++ bs q').length = 128 := by rw [List.length_append, length_bs, length_bs]; omega
  have t1 := sq_all p q h1 h2
  have t2 := sq_all p' q' h3 h4
  simp only [sqc]
  generalize bs p ++ bs q = tl at *
  generalize bs p' ++ bs q' = tl' at *
  refine CallOk.body (F0 := [(0, .agg (.int .i64 a1 :: .int .i64 a2 :: .int .i64 a3 :: .int .i64 a4 :: .bool a5 :: .int .i64 a6 :: .int .i64 a7 :: tl)), (1, .agg (.int .i64 b1 :: .int .i64 b2 :: .int .i64 b3 :: .int .i64 b4 :: .bool b5 :: .int .i64 b6 :: .int .i64 b7 :: tl'))]) Try.func30 rfl Try.ntmps30 Try.results30 rfl (by kernel_rfl) rfl ?_
  (repeat refine PW.seq ?_); refine PW.rg rfl fun K hK => ?_; simp (maxSteps := 3000000) (disch := omega) only [go_sem, ↓reduceIte, reduceCtorEq, pappend, plen, c1, c2]; refine hK _ _ ?_; clear hK K
  (repeat refine PW.seq ?_); refine PW.drawi [H.length + 1] [(3, [0]), (9, [0]), (10, [0])] [] [] mix (by kernel_rfl) (by simp <;> omega) fun K hK => ?_
  simp (maxSteps := 3000000) (disch := omega) only [go_sem, ↓reduceIte, reduceCtorEq, pappend, plen, l1, l2]
  refine hK _ _ ?_; clear hK K
  (repeat refine PW.seq ?_); refine PW.rg rfl fun K hK => ?_; simp (maxSteps := 3000000) (disch := omega) only [go_sem, ↓reduceIte, reduceCtorEq, pappend, plen, l1, l2, t1, t2, ↓he]; refine hK _ _ ?_; clear hK K
  (refine PW.ret ⟨_, rfl, ?_⟩; first | refine .inl ⟨?_, rfl⟩ | refine Fin.base (.id' ?_ (.bool _)) | refine Fin.base (.id' ?_ (.int _ _)))
  rfl
theorem agr_ref (s t : Sq) (H : Heap) (hs : SqL s) (ht : SqL t) : CallOk Try.prog 31 [.agg (sqc s), .agg (sqc t)] H (.bool (agr s t)) H := by
  obtain ⟨a1, a2, a3, a4, a5, a6, a7, p, q⟩ := s
  obtain ⟨b1, b2, b3, b4, b5, b6, b7, p', q'⟩ := t
  obtain ⟨h1, h2⟩ := hs
  obtain ⟨h3, h4⟩ := ht
  dsimp only at h1 h2 h3 h4
  have he := eqSx a1 a2 a3 a4 a5 a6 a7 p q b1 b2 b3 b4 b5 a6 a7 p' q' h1 h2 h3 h4
  have hr : agr ⟨a1, a2, a3, a4, a5, a6, a7, p, q⟩ ⟨b1, b2, b3, b4, b5, b6, b7, p', q'⟩ = sqE ⟨a1, a2, a3, a4, a5, a6, a7, p, q⟩ ⟨b1, b2, b3, b4, b5, a6, a7, p', q'⟩ := rfl
  rw [hr]
  have c1 := bs_cells p q
  have c2 := bs_cells p' q'
  have l1 : (bs p ++ bs q).length = 128 := by rw [List.length_append, length_bs, length_bs]; omega
  have l2 : (bs p' ++ bs q').length = 128 := by rw [List.length_append, length_bs, length_bs]; omega
  have t1 := sq_all p q h1 h2
  have t2 := sq_all p' q' h3 h4
  simp only [sqc]
  generalize bs p ++ bs q = tl at *
  generalize bs p' ++ bs q' = tl' at *
  refine CallOk.body (F0 := [(0, .agg (.int .i64 a1 :: .int .i64 a2 :: .int .i64 a3 :: .int .i64 a4 :: .bool a5 :: .int .i64 a6 :: .int .i64 a7 :: tl)), (1, .agg (.int .i64 b1 :: .int .i64 b2 :: .int .i64 b3 :: .int .i64 b4 :: .bool b5 :: .int .i64 b6 :: .int .i64 b7 :: tl'))]) Try.func31 rfl Try.ntmps31 Try.results31 rfl (by kernel_rfl) rfl ?_
  (repeat refine PW.seq ?_); refine PW.rg rfl fun K hK => ?_; simp (maxSteps := 3000000) (disch := omega) only [go_sem, ↓reduceIte, reduceCtorEq, pappend, plen, c1, c2]; refine hK _ _ ?_; clear hK K
  (repeat refine PW.seq ?_); refine PW.drawi [H.length + 1] [(3, [0]), (9, [0]), (10, [0])] [] [] mix (by kernel_rfl) (by simp <;> omega) fun K hK => ?_
  simp (maxSteps := 3000000) (disch := omega) only [go_sem, ↓reduceIte, reduceCtorEq, pappend, plen, l1, l2]
  refine hK _ _ ?_; clear hK K
  (repeat refine PW.seq ?_); refine PW.rg rfl fun K hK => ?_; simp (maxSteps := 3000000) (disch := omega) only [go_sem, ↓reduceIte, reduceCtorEq, pappend, plen, l1, l2, t1, t2, ↓he]; refine hK _ _ ?_; clear hK K
  (refine PW.ret ⟨_, rfl, ?_⟩; first | refine .inl ⟨?_, rfl⟩ | refine Fin.base (.id' ?_ (.bool _)) | refine Fin.base (.id' ?_ (.int _ _)))
  rfl

/-- A frame of an index. -/
structure En where
  ty : Int
  ok : Bool
  fl : Int
  tf : Bool
  ot : Bool
def enc (e : En) : List PV := [.int .i64 e.ty, .bool e.ok, .int .i64 e.fl, .bool e.tf, .bool e.ot]
/-- An index. -/
structure Ix where
  nm : List UInt8
  sq : Sq
  en : List En
  g : Bool
def ixc (x : Ix) : List PV := .str x.nm :: (sqc x.sq ++ [.slice (x.en.flatMap enc) x.en.length x.g])
def enAt (l : List En) (k : Nat) : En := l.getD k ⟨0, false, 0, false, false⟩
/-- May frame n be copied? -/
def usb (s : Sq) (top : Bool) (x : Ix) (n : Int) : Bool := agr s x.sq && (decide (0 ≤ n) && (decide (n < x.en.length) && ((enAt x.en n.toNat).ok && (!(enAt x.en n.toNat).ot && (decide ((enAt x.en n.toNat).fl = 2) && (!s.il || ((enAt x.en n.toNat).tf == top)))))))

theorem fm_len {α : Type} (en : α → List PV) (m : Nat) (h : ∀ x, (en x).length = m) : ∀ l : List α, (l.flatMap en).length = l.length * m
  | [] => by simp
  | a :: r => by rw [List.flatMap_cons, List.length_append, h, fm_len en m h r, List.length_cons, Nat.succ_mul]; omega
theorem fm_at {α : Type} (en : α → List PV) (m : Nat) (h : ∀ x, (en x).length = m) (d : α) : ∀ (l : List α) (k : Nat), k < l.length → ((l.flatMap en).drop (k * m)).take m = en (l.getD k d)
  | [], k, hk => by simp at hk
  | a :: r, 0, _ => by rw [List.flatMap_cons, Nat.zero_mul, List.drop_zero, List.take_append_of_le_length (by rw [h]; exact Nat.le_refl _), List.take_of_length_le (by rw [h]; exact Nat.le_refl _)]; rfl
  | a :: r, k + 1, hk => by
    rw [List.flatMap_cons, show (k + 1) * m = (en a).length + k * m by rw [h, Nat.succ_mul]; omega, ← List.drop_drop, List.drop_left, fm_at en m h d r k (by simpa using hk)]
    rfl

set_option maxHeartbeats 2000000 in
theorem usb_ok (s : Sq) (top : Bool) (x : Ix) (n : Int) (H : Heap) (hs : SqL s) (hx : SqL x.sq) (hl : x.en.length ≤ 9223372036854775807) : CallOk Try.prog 28 [.agg (sqc s), .bool top, .agg (ixc x), .int .i64 n] H (.bool (usb s top x n)) H := by
  have ago := fun H => agr_ok s x.sq H hs hx
  have hE := fm_len enc 5 (fun _ => rfl) x.en
  have hat := fun (h0 : 0 ≤ n) (h1 : n < x.en.length) => fm_at enc 5 (fun _ => rfl) ⟨0, false, 0, false, false⟩ x.en n.toNat (by omega)
  have hr : usb s top x n = (agr s x.sq && (decide (0 ≤ n) && (decide (n < x.en.length) && ((enAt x.en n.toNat).ok && (!(enAt x.en n.toNat).ot && (decide ((enAt x.en n.toNat).fl = 2) && (!s.il || ((enAt x.en n.toNat).tf == top)))))))) := rfl
  rw [hr]
  clear hr
  generalize agr s x.sq = ag at *
  change ∀ (h0 : 0 ≤ n) (h1 : n < x.en.length), List.take 5 (List.drop (n.toNat * 5) (x.en.flatMap enc)) = enc (enAt x.en n.toNat) at hat
  generalize enAt x.en n.toNat = e at *
  obtain ⟨ety, eok, efl, etf, eot⟩ := e
  obtain ⟨a1, a2, a3, a4, a5, a6, a7, p, q⟩ := s
  obtain ⟨nm, ⟨b1, b2, b3, b4, b5, b6, b7, p', q'⟩, en, g⟩ := x
  obtain ⟨h1, h2⟩ := hs
  obtain ⟨h3, h4⟩ := hx
  dsimp only [enc] at *
  have c1 := bs_cells p q
  have c2 := bs_cells p' q'
  have l1 : (bs p ++ bs q).length = 128 := by rw [List.length_append, length_bs, length_bs]; omega
  have l2 : (bs p' ++ bs q').length = 128 := by rw [List.length_append, length_bs, length_bs]; omega
  have t1 := sq_all p q h1 h2
  simp only [sqc, ixc] at *
  generalize bs p ++ bs q = tl at *
  generalize bs p' ++ bs q' = tl' at *
  have t2 : ∀ r, List.take 128 (tl' ++ r) = tl' := fun r => by rw [← l2]; exact List.take_left
  have t3 : ∀ y, (tl' ++ [y])[128]? = some y := fun y => by rw [← l2]; simp
  generalize hEE : en.flatMap _ = E at *
  refine CallOk.body (F0 := [(0, .agg (.int .i64 a1 :: .int .i64 a2 :: .int .i64 a3 :: .int .i64 a4 :: .bool a5 :: .int .i64 a6 :: .int .i64 a7 :: tl)), (1, .bool top), (2, .agg (.str nm :: .int .i64 b1 :: .int .i64 b2 :: .int .i64 b3 :: .int .i64 b4 :: .bool b5 :: .int .i64 b6 :: .int .i64 b7 :: (tl' ++ [.slice E en.length g]))), (3, .int .i64 n)]) Try.func28 rfl Try.ntmps28 Try.results28 rfl (by kernel_rfl) rfl ?_
  (repeat refine PW.seq ?_); refine PW.rg rfl fun K hK => ?_; simp (maxSteps := 3000000) (disch := omega) only [go_sem, ↓reduceIte, reduceCtorEq, pappend, plen, c1, c2, List.all_append]; refine hK _ _ ?_; clear hK K
  (repeat' (first | refine PW.seq ?_ | refine PW.skip ?_ | refine PW.block ?_ | (refine PW.rg rfl fun K hK => ?_; simp (maxSteps := 3000000) (disch := omega) only [go_sem, ↓reduceIte, reduceCtorEq, pappend, plen, l1, l2, t1, t2, t3, hat, hE, List.length_append]) | (refine PW.draw mix (by kernel_rfl) fun K hK => ?_; simp (maxSteps := 3000000) (disch := omega) only [go_sem, ↓reduceIte, reduceCtorEq, pappend, plen, l1, l2, t1, t2, t3, hat, hE, List.length_append]) | (refine PW.drawg mix (by kernel_rfl) fun K hK => ?_; simp (maxSteps := 3000000) (disch := omega) only [go_sem, ↓reduceIte, reduceCtorEq, pappend, plen, l1, l2, t1, t2, t3, hat, hE, List.length_append]) | ((first | refine VO_cond (fun h => ?_) (fun h => ?_) | refine VOd_cond (fun h => ?_) (fun h => ?_) | refine VOg_cond (fun h => ?_) (fun h => ?_) | refine VOh_cond (fun h => ?_) (fun h => ?_) | refine VOi_cond (fun h => ?_) (fun h => ?_) | refine And.intro (fun h => ?_) (fun h => ?_)) <;> (try simp only [Bool.not_eq_true', Bool.not_eq_false', decide_eq_true_eq, decide_eq_false_iff_not] at h) <;> simp (maxSteps := 3000000) (disch := omega) only [go_sem, ↓reduceIte, reduceCtorEq, pappend, plen, l1, l2, t1, t2, t3, hat, hE, List.length_append, h]) | (refine VCx.call (ago _) rfl ?_; simp (maxSteps := 3000000) (disch := omega) only [go_sem, ↓reduceIte, reduceCtorEq, pappend, plen, l1, l2, t1, t2, t3, hat, hE, List.length_append]) | (refine VCy.call (ago _) rfl ?_; simp (maxSteps := 3000000) (disch := omega) only [go_sem, ↓reduceIte, reduceCtorEq, pappend, plen, l1, l2, t1, t2, t3, hat, hE, List.length_append]) | (refine VCz.call (fun _ => ago _) rfl ?_; simp (maxSteps := 3000000) (disch := omega) only [go_sem, ↓reduceIte, reduceCtorEq, pappend, plen, l1, l2, t1, t2, t3, hat, hE, List.length_append]) | (refine VCk.call (fun _ _ => ago _) rfl ?_; simp (maxSteps := 3000000) (disch := omega) only [go_sem, ↓reduceIte, reduceCtorEq, pappend, plen, l1, l2, t1, t2, t3, hat, hE, List.length_append]) | (refine hK _ _ ?_; clear hK K) | (refine PW.cond (t := _) rfl (fun h => ?_) (fun h => ?_) <;> (try (cases h; done)) <;> (try simp only [Bool.not_eq_true', Bool.not_eq_false', decide_eq_true_eq, decide_eq_false_iff_not] at h))))
  all_goals ((refine PW.ret ⟨_, rfl, ?_⟩; first | refine .inl ⟨?_, rfl⟩ | refine Fin.base (.id' ?_ (.bool _)) | refine Fin.base (.id' ?_ (.int _ _))); clear ago c1 c2 t1 t2 t3 hat hE hEE; (simp_all [slot, Nat.beq] <;> first | rfl | omega | (rw [Bool.eq_iff_iff]; simp; done) | (rw [Bool.eq_iff_iff]; simp; omega)))

set_option maxHeartbeats 2000000 in
theorem usb_ref (s : Sq) (top : Bool) (x : Ix) (n : Int) (H : Heap) (hs : SqL s) (hx : SqL x.sq) (hl : x.en.length ≤ 9223372036854775807) : CallOk Try.prog 29 [.agg (sqc s), .bool top, .agg (ixc x), .int .i64 n] H (.bool (usb s top x n)) H := by
  have ago := fun H => agr_ref s x.sq H hs hx
  have hE := fm_len enc 5 (fun _ => rfl) x.en
  have hat := fun (h0 : 0 ≤ n) (h1 : n < x.en.length) => fm_at enc 5 (fun _ => rfl) ⟨0, false, 0, false, false⟩ x.en n.toNat (by omega)
  have hr : usb s top x n = (agr s x.sq && (decide (0 ≤ n) && (decide (n < x.en.length) && ((enAt x.en n.toNat).ok && (!(enAt x.en n.toNat).ot && (decide ((enAt x.en n.toNat).fl = 2) && (!s.il || ((enAt x.en n.toNat).tf == top)))))))) := rfl
  rw [hr]
  clear hr
  generalize agr s x.sq = ag at *
  change ∀ (h0 : 0 ≤ n) (h1 : n < x.en.length), List.take 5 (List.drop (n.toNat * 5) (x.en.flatMap enc)) = enc (enAt x.en n.toNat) at hat
  generalize enAt x.en n.toNat = e at *
  obtain ⟨ety, eok, efl, etf, eot⟩ := e
  obtain ⟨a1, a2, a3, a4, a5, a6, a7, p, q⟩ := s
  obtain ⟨nm, ⟨b1, b2, b3, b4, b5, b6, b7, p', q'⟩, en, g⟩ := x
  obtain ⟨h1, h2⟩ := hs
  obtain ⟨h3, h4⟩ := hx
  dsimp only [enc] at *
  have c1 := bs_cells p q
  have c2 := bs_cells p' q'
  have l1 : (bs p ++ bs q).length = 128 := by rw [List.length_append, length_bs, length_bs]; omega
  have l2 : (bs p' ++ bs q').length = 128 := by rw [List.length_append, length_bs, length_bs]; omega
  have t1 := sq_all p q h1 h2
  simp only [sqc, ixc] at *
  generalize bs p ++ bs q = tl at *
  generalize bs p' ++ bs q' = tl' at *
  have t2 : ∀ r, List.take 128 (tl' ++ r) = tl' := fun r => by rw [← l2]; exact List.take_left
  have t3 : ∀ y, (tl' ++ [y])[128]? = some y := fun y => by rw [← l2]; simp
  generalize hEE : en.flatMap _ = E at *
  refine CallOk.body (F0 := [(0, .agg (.int .i64 a1 :: .int .i64 a2 :: .int .i64 a3 :: .int .i64 a4 :: .bool a5 :: .int .i64 a6 :: .int .i64 a7 :: tl)), (1, .bool top), (2, .agg (.str nm :: .int .i64 b1 :: .int .i64 b2 :: .int .i64 b3 :: .int .i64 b4 :: .bool b5 :: .int .i64 b6 :: .int .i64 b7 :: (tl' ++ [.slice E en.length g]))), (3, .int .i64 n)]) Try.func29 rfl Try.ntmps29 Try.results29 rfl (by kernel_rfl) rfl ?_
  (repeat refine PW.seq ?_); refine PW.rg rfl fun K hK => ?_; simp (maxSteps := 3000000) (disch := omega) only [go_sem, ↓reduceIte, reduceCtorEq, pappend, plen, c1, c2, List.all_append]; refine hK _ _ ?_; clear hK K
  (repeat' (first | refine PW.seq ?_ | refine PW.skip ?_ | refine PW.block ?_ | (refine PW.rg rfl fun K hK => ?_; simp (maxSteps := 3000000) (disch := omega) only [go_sem, ↓reduceIte, reduceCtorEq, pappend, plen, l1, l2, t1, t2, t3, hat, hE, List.length_append]) | (refine PW.draw mix (by kernel_rfl) fun K hK => ?_; simp (maxSteps := 3000000) (disch := omega) only [go_sem, ↓reduceIte, reduceCtorEq, pappend, plen, l1, l2, t1, t2, t3, hat, hE, List.length_append]) | (refine PW.drawg mix (by kernel_rfl) fun K hK => ?_; simp (maxSteps := 3000000) (disch := omega) only [go_sem, ↓reduceIte, reduceCtorEq, pappend, plen, l1, l2, t1, t2, t3, hat, hE, List.length_append]) | ((first | refine VO_cond (fun h => ?_) (fun h => ?_) | refine VOd_cond (fun h => ?_) (fun h => ?_) | refine VOg_cond (fun h => ?_) (fun h => ?_) | refine VOh_cond (fun h => ?_) (fun h => ?_) | refine VOi_cond (fun h => ?_) (fun h => ?_) | refine And.intro (fun h => ?_) (fun h => ?_)) <;> (try simp only [Bool.not_eq_true', Bool.not_eq_false', decide_eq_true_eq, decide_eq_false_iff_not] at h) <;> simp (maxSteps := 3000000) (disch := omega) only [go_sem, ↓reduceIte, reduceCtorEq, pappend, plen, l1, l2, t1, t2, t3, hat, hE, List.length_append, h]) | (refine VCx.call (ago _) rfl ?_; simp (maxSteps := 3000000) (disch := omega) only [go_sem, ↓reduceIte, reduceCtorEq, pappend, plen, l1, l2, t1, t2, t3, hat, hE, List.length_append]) | (refine VCy.call (ago _) rfl ?_; simp (maxSteps := 3000000) (disch := omega) only [go_sem, ↓reduceIte, reduceCtorEq, pappend, plen, l1, l2, t1, t2, t3, hat, hE, List.length_append]) | (refine VCz.call (fun _ => ago _) rfl ?_; simp (maxSteps := 3000000) (disch := omega) only [go_sem, ↓reduceIte, reduceCtorEq, pappend, plen, l1, l2, t1, t2, t3, hat, hE, List.length_append]) | (refine VCk.call (fun _ _ => ago _) rfl ?_; simp (maxSteps := 3000000) (disch := omega) only [go_sem, ↓reduceIte, reduceCtorEq, pappend, plen, l1, l2, t1, t2, t3, hat, hE, List.length_append]) | (refine hK _ _ ?_; clear hK K) | (refine PW.cond (t := _) rfl (fun h => ?_) (fun h => ?_) <;> (try (cases h; done)) <;> (try simp only [Bool.not_eq_true', Bool.not_eq_false', decide_eq_true_eq, decide_eq_false_iff_not] at h))))
  all_goals ((refine PW.ret ⟨_, rfl, ?_⟩; first | refine .inl ⟨?_, rfl⟩ | refine Fin.base (.id' ?_ (.bool _)) | refine Fin.base (.id' ?_ (.int _ _))); clear ago c1 c2 t1 t2 t3 hat hE hEE; (simp_all [slot, Nat.beq] <;> first | rfl | omega | (rw [Bool.eq_iff_iff]; simp; done) | (rw [Bool.eq_iff_iff]; simp; omega)))

end Go.Proofs.Ytnjnikafhbholaa.Sc
