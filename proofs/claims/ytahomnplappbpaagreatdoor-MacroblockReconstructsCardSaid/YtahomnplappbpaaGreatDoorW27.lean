/-
  Parts of the proof, put together in one text. No condition.
-/
import Derived.Test.YtahomnplappbpaaGreatDoorW26
import Derived.Test.YtahomnplappbpaaGreatDoorW16
import Derived.Test.YtahomnplappbpaaGreatDoorW22
namespace Go.Proofs.YtahomnplappbpaaGreatDoor.Sc
set_option linter.all false
set_option linter.unusedVariables false
set_option linter.unusedSimpArgs false
open Pm Ty Go.RowKit

theorem bool1 (b : Bool) : ∀ x ∈ [PV.bool b], Scoped 0 x := fun x hx => by
  simp only [List.mem_cons, List.not_mem_nil, or_false] at hx
  subst hx; exact .bool _
theorem scan_okA (al : Bool) (H : Heap) : CallOk Tryz.prog 226 [.bool al] H (.agg (is (sca al))) H := by
  cases al
  · exact CallOk.evalV 1000000 (by kernel_rfl) (bool1 _)
  · exact CallOk.evalV 1000000 (by kernel_rfl) (bool1 _)
theorem frn_at {l s : List Int} {n X : Nat} (hx : intAt s n = (X : Int)) : (frn l s n).set X (intAt l n) = frn l s (n + 1) := by rw [frn, hx, Int.toNat_natCast]

set_option maxHeartbeats 1600000 in
set_option maxRecDepth 100000 in
theorem fromScan_ok (l : List Int) (al : Bool) (hl : l.length = 64) (H : Heap) : CallOk Tryz.prog 157 [.agg (is l), .bool al] H (.agg (is (frs l al))) H := by
  have hall := is_cell l
  have sc := fun K => scan_okA al K
  have sl := sca_len al
  refine CallOk.body (F0 := [(0, .agg (is l)), (1, .bool al)]) Tryz.func157 rfl Tryz.ntmps157 Tryz.results157 rfl (by kernel_rfl) rfl ?_
  (repeat refine PW.seq ?_); refine PW.rg rfl fun K hK => ?_; simp (disch := omega) only [go_sem, ↓reduceIte, reduceCtorEq, pappend, plen, hall]; refine hK _ _ ?_; clear hK K
  (repeat refine PW.seq ?_); refine PW.rg rfl fun K hK => ?_; simp (disch := omega) only [go_sem, ↓reduceIte, reduceCtorEq, pappend, plen]; refine hK _ _ ?_; clear hK K
  (repeat refine PW.seq ?_); refine PW.rg rfl fun K hK => ?_; simp (disch := omega) only [go_sem, ↓reduceIte, reduceCtorEq, pappend, plen]; refine VCx.call (sc _) rfl ?_; simp (disch := omega) only [go_sem, ↓reduceIte, reduceCtorEq, pappend, plen]; refine hK _ _ ?_; clear hK K
  (repeat refine PW.seq ?_); refine PW.block (PW.loop ?_)
  suffices h1 : ∀ p : Nat, p ≤ 64 → PL Tryz.prog _ _ [(2, .ptr H.length 0 0), (4, .ptr (H.length + 1) 0 0), (5, .ptr (H.length + 2) 0 0), (9, .agg (is (sca al))), (10, .int .i64 (p : Int))] (H ++ [⟨47, 0, is l⟩, ⟨47, 0, is zi⟩, ⟨47, 0, is (frn l (sca al) p)⟩]) _ by
    exact PL.at [2, 4, 5, 9, 10] (h1 0 (by omega)) rfl rfl
  refine cnt 64 (fun p hp ih => ?_) ?_
  · refine PL.round ?_; (repeat refine PW.seq ?_); refine PW.rg rfl fun K hK => ?_; simp (disch := omega) only [go_sem, ↓reduceIte, reduceCtorEq, pappend, plen]; refine hK _ _ ?_; clear hK K; (repeat refine PW.seq ?_); refine PW.cond (t := _) rfl (fun h => ?_) (fun h => ?_)
    rotate_left
    · cases h
    obtain ⟨b1, b2⟩ := sca_bd al p
    obtain ⟨X, hX⟩ : ∃ X : Nat, intAt (sca al) p = (X : Int) := ⟨(intAt (sca al) p).toNat, by omega⟩
    have f1 := frn_at (l := l) hX
    have f2 := frn_len l (sca al) p
    refine PW.skip ?_; (repeat refine PW.seq ?_); refine PW.block ?_
    (repeat refine PW.seq ?_); refine PW.rg rfl fun K hK => ?_; simp (disch := omega) only [go_sem, ↓reduceIte, reduceCtorEq, pappend, plen, is_get, is_len, sl, hX]; refine hK _ _ ?_; clear hK K
    (repeat refine PW.seq ?_); refine PW.rg rfl fun K hK => ?_; simp (disch := omega) only [go_sem, ↓reduceIte, reduceCtorEq, pappend, plen, is_get, is_len, hl, hX, f2, is_set, f1]; refine hK _ _ ?_; clear hK K
    (repeat refine PW.seq ?_); refine PW.rg rfl fun K hK => ?_; simp (disch := omega) only [go_sem, ↓reduceIte, reduceCtorEq, pappend, plen]; refine hK _ _ ?_; clear hK K
    exact PL.at [2, 4, 5, 9, 10] ih rfl rfl
  refine PL.round ?_; (repeat refine PW.seq ?_); refine PW.rg rfl fun K hK => ?_; simp (disch := omega) only [go_sem, ↓reduceIte, reduceCtorEq, pappend, plen]; refine hK _ _ ?_; clear hK K; (repeat refine PW.seq ?_); refine PW.cond (t := _) rfl (fun h => ?_) (fun h => ?_)
  · cases h
  refine PW.exit ?_
  have c3 := frn_len l (sca al) 64
  have c4 : (is (frn l (sca al) 64)).length = 64 := by rw [is_len, c3]
  have c5 := is_cell (frn l (sca al) 64)
  have c6 : List.take 64 (is (frn l (sca al) 64)) = is (frn l (sca al) 64) := List.take_of_length_le (by omega)
  have z3 : (is zi).length = 64 := by rw [is_len, zi_len]
  have z4 : List.drop 64 (is zi) = [] := List.drop_of_length_le (by omega)
  (repeat refine PW.seq ?_); refine PW.rg rfl fun K hK => ?_; simp (disch := omega) only [go_sem, ↓reduceIte, reduceCtorEq, pappend, plen, c4, c5, c6, z3, z4]; refine hK _ _ ?_; clear hK K
  unfold frs
  refine PW.ret ⟨.agg (is (frn l (sca al) 64)), by simp (disch := omega) only [go_sem, ↓reduceIte, reduceCtorEq, pappend, plen, presults, presult, List.mapM_cons, List.mapM_nil, Option.pure_def, Option.bind_eq_bind, Option.bind_some, Array.toList, c4, c6], ?_⟩
  exact Fin.base (.id (ag_scoped (is_scoped _ _)))

theorem or8 {i : Nat} (h : i < 8) : i = 0 ∨ i = 1 ∨ i = 2 ∨ i = 3 ∨ i = 4 ∨ i = 5 ∨ i = 6 ∨ i = 7 := by omega
theorem sc2 (a b : Int) : ∀ x ∈ [PV.int .i64 a, PV.int .i64 b], Scoped 0 x := fun x hx => by
  simp only [List.mem_cons, List.not_mem_nil, or_false] at hx
  rcases hx with rfl | rfl <;> exact .int _ _
theorem sc1 (a : Int) : ∀ x ∈ [PV.int .i64 a], Scoped 0 x := fun x hx => by
  simp only [List.mem_cons, List.not_mem_nil, or_false] at hx
  subst hx; exact .int _ _
theorem norm_ok (i : Nat) (H : Heap) (hi : i < 8) : CallOk Tryz.prog 266 [.int .i64 (i : Int)] H (.int .i64 (intAt nrL i)) H := by
  rcases or8 hi with rfl | rfl | rfl | rfl | rfl | rfl | rfl | rfl
  all_goals exact CallOk.eval 10000 (by kernel_rfl) (sc1 _)
theorem nr3 {i : Nat} (h : i < 8) : intAt nrL i = 512 ∨ intAt nrL i = 578 ∨ intAt nrL i = 320 := by
  have : ∀ i, i < 8 → intAt nrL i = 512 ∨ intAt nrL i = 578 ∨ intAt nrL i = 320 := by decide
  exact this i h
def gnV (a b : Int) : Int := if a = 512 ∧ b = 512 then 32 else if (a = 512 ∧ b = 578) ∨ (a = 578 ∧ b = 512) then 34 else if (a = 512 ∧ b = 320) ∨ (a = 320 ∧ b = 512) then 25 else if a = 578 ∧ b = 578 then 36 else if (a = 578 ∧ b = 320) ∨ (a = 320 ∧ b = 578) then 27 else 20
theorem gnV_at {k : Nat} (h : k < 64) : gnV (intAt nrL (k / 8)) (intAt nrL (k % 8)) = intAt gnL k := by
  have : ∀ k, k < 64 → gnV (intAt nrL (k / 8)) (intAt nrL (k % 8)) = intAt gnL k := by decide +kernel
  exact this k h
theorem gain_ok {a b : Int} (ha : a = 512 ∨ a = 578 ∨ a = 320) (hb : b = 512 ∨ b = 578 ∨ b = 320) (H : Heap) : CallOk Tryz.prog 265 [.int .i64 a, .int .i64 b] H (.int .i64 (gnV a b)) H := by
  rcases ha with rfl | rfl | rfl <;> rcases hb with rfl | rfl | rfl
  all_goals exact CallOk.eval 10000 (by kernel_rfl) (sc2 _ _)
def qnB (q : Int) : Bool := decide (1 ≤ q) && decide (q ≤ 31)
theorem qn_ok (q : Int) (H : Heap) : CallOk Tryz.prog 224 [.int .i64 q] H (.bool (qnB q)) H := by
  refine CallOk.body (F0 := [(0, .int .i64 q)]) Tryz.func224 rfl Tryz.ntmps224 Tryz.results224 rfl (by kernel_rfl) rfl ?_
  (repeat' (first | refine PW.seq ?_ | refine PW.skip ?_ | refine PW.block ?_ | (refine PW.rg rfl fun K hK => ?_; simp (disch := omega) only [go_sem, ↓reduceIte, reduceCtorEq, pappend, plen]) | (refine PW.draw mix (by kernel_rfl) fun K hK => ?_; simp (disch := omega) only [go_sem, ↓reduceIte, reduceCtorEq, pappend, plen]) | (refine PW.drawg mix (by kernel_rfl) fun K hK => ?_; simp (disch := omega) only [go_sem, ↓reduceIte, reduceCtorEq, pappend, plen]) | (refine PW.drawt [] [] mix (by kernel_rfl) fun K hK => ?_; simp (disch := omega) only [go_sem, ↓reduceIte, reduceCtorEq, pappend, plen]) | ((first | refine VO_cond ?_ ?_ | refine VOd_cond ?_ ?_ | refine VOg_cond ?_ ?_ | refine VOh_cond ?_ ?_ | refine VOi_cond ?_ ?_ | refine And.intro ?_ ?_) <;> intro h <;> (try simp only [Bool.not_eq_true', Bool.not_eq_false', decide_eq_true_eq, decide_eq_false_iff_not] at h) <;> simp (disch := omega) only [go_sem, ↓reduceIte, reduceCtorEq, pappend, plen, h]) | (refine hK _ _ ?_; clear hK K) | (refine PW.cond (t := _) rfl (fun h => ?_) (fun h => ?_) <;> (try (cases h; done)) <;> (try simp only [Bool.not_eq_true', Bool.not_eq_false', decide_eq_true_eq, decide_eq_false_iff_not] at h))))
  all_goals ((refine PW.ret ⟨_, rfl, ?_⟩; first | refine .inl ⟨?_, rfl⟩ | refine Fin.base (.id' ?_ (.bool _)) | refine Fin.base (.id' ?_ (.int _ _))); (simp_all [qnB, slot, Nat.beq] <;> first | rfl | omega | (rw [Bool.eq_iff_iff]; simp; done) | (rw [Bool.eq_iff_iff]; simp; omega)))
theorem qnB_of {q : Int} (h : qnB q = true) : 1 ≤ q ∧ q ≤ 31 := by simpa [qnB] using h
theorem mulb {a b : Int} {A B : Int} (ha : 0 ≤ a ∧ a ≤ A) (hb : 0 ≤ b ∧ b ≤ B) : 0 ≤ a * b ∧ a * b ≤ A * B := ⟨Int.mul_nonneg ha.1 hb.1, Int.mul_le_mul ha.2 hb.2 hb.1 (by omega)⟩
theorem step_ok (w q : Int) (k : Nat) (H : Heap) (hw : 8 ≤ w ∧ w ≤ 255) (hq : qnB q = true) (hk : k < 64) : CallOk Tryz.prog 225 [.int .i64 w, .int .i64 q, .int .i64 (k : Int)] H (.int .i64 (w * q * intAt gnL k)) H := by
  have vq := fun H => qn_ok q H
  rw [hq] at vq
  have q1 := qnB_of hq
  have n1 := fun H => norm_ok (k / 8) H (by omega)
  have n2 := fun H => norm_ok (k % 8) H (by omega)
  have gk := fun H => gain_ok (nr3 (show k / 8 < 8 by omega)) (nr3 (show k % 8 < 8 by omega)) H
  rw [gnV_at hk] at gk
  have b1 := mulb (a := w) (b := q) (A := 255) (B := 31) (by omega) (by omega)
  have b2 := mulb (a := w * q) (b := intAt gnL k) (A := 7905) (B := 36) (by omega) (gn_bd k)
  have d1 : (k : Int).tdiv 8 = ((k / 8 : Nat) : Int) := by rw [tdiv_pos _ _ (by omega)]; omega
  have d2 : (k : Int).tmod 8 = ((k % 8 : Nat) : Int) := by rw [tmod_pos _ _ (by omega)]; omega
  refine CallOk.body (F0 := [(0, .int .i64 w), (1, .int .i64 q), (2, .int .i64 (k : Int))]) Tryz.func225 rfl Tryz.ntmps225 Tryz.results225 rfl (by kernel_rfl) rfl ?_
  (repeat refine PW.seq ?_); refine PW.rg rfl fun K hK => ?_; simp (disch := omega) only [go_sem, ↓reduceIte, reduceCtorEq, pappend, plen]; refine hK _ _ ?_; clear hK K
  (repeat refine PW.seq ?_)
  refine PW.rgv (P := Tryz.prog) [0, 1, 2] 25 (.bool false) ?_ ?_ ?_
  · rfl
  · simp (disch := omega) only [go_sem, ↓reduceIte, reduceCtorEq, pappend, plen]; (repeat' (first | ((first | refine VO_cond ?_ ?_ | refine VOd_cond ?_ ?_ | refine VOg_cond ?_ ?_ | refine VOh_cond ?_ ?_ | refine VOi_cond ?_ ?_ | refine And.intro ?_ ?_) <;> intro h <;> (try simp only [Bool.not_eq_true', Bool.not_eq_false', decide_eq_true_eq, decide_eq_false_iff_not] at h) <;> simp (disch := omega) only [go_sem, ↓reduceIte, reduceCtorEq, pappend, plen, h]) | ((first | refine VCx.call (vq _) rfl ?_ | refine VCy.call (vq _) rfl ?_ | refine VCz.call (fun _ => vq _) rfl ?_ | refine VCk.call (fun _ _ => vq _) rfl ?_ | refine VCj.now (vq _) rfl ?_); simp (disch := omega) only [go_sem, ↓reduceIte, reduceCtorEq, pappend, plen])))
    all_goals (simp_all [slot, Nat.beq] <;> first | rfl | omega | (rw [Bool.eq_iff_iff]; simp; done) | (rw [Bool.eq_iff_iff]; simp; omega))
  (repeat refine PW.seq ?_); refine PW.cond (t := _) rfl (fun h => ?_) (fun h => ?_)
  · cases h
  refine PW.skip ?_
  (repeat refine PW.seq ?_); refine PW.rg rfl fun K hK => ?_; simp (disch := omega) only [go_sem, ↓reduceIte, reduceCtorEq, pappend, plen, d1, d2]
  (repeat' (first | ((first | refine VO_cond ?_ ?_ | refine VOd_cond ?_ ?_ | refine VOg_cond ?_ ?_ | refine VOh_cond ?_ ?_ | refine VOi_cond ?_ ?_ | refine And.intro ?_ ?_) <;> intro h <;> (try simp only [Bool.not_eq_true', Bool.not_eq_false', decide_eq_true_eq, decide_eq_false_iff_not] at h) <;> simp (disch := omega) only [go_sem, ↓reduceIte, reduceCtorEq, pappend, plen, d1, d2, h]) | ((first | refine VCx.call (n1 _) rfl ?_ | refine VCx.call (n2 _) rfl ?_ | refine VCx.call (gk _) rfl ?_ | refine VCy.call (n1 _) rfl ?_ | refine VCy.call (n2 _) rfl ?_ | refine VCy.call (gk _) rfl ?_ | refine VCz.call (fun _ => n1 _) rfl ?_ | refine VCz.call (fun _ => n2 _) rfl ?_ | refine VCz.call (fun _ => gk _) rfl ?_ | refine VCk.call (fun _ _ => n1 _) rfl ?_ | refine VCk.call (fun _ _ => n2 _) rfl ?_ | refine VCk.call (fun _ _ => gk _) rfl ?_ | refine VCj.now (n1 _) rfl ?_ | refine VCj.now (n2 _) rfl ?_ | refine VCj.now (gk _) rfl ?_); simp (disch := omega) only [go_sem, ↓reduceIte, reduceCtorEq, pappend, plen, d1, d2])))
  refine hK _ _ ?_; clear hK K
  (refine PW.ret ⟨_, rfl, ?_⟩; first | refine .inl ⟨?_, rfl⟩ | refine Fin.base (.id' ?_ (.bool _)) | refine Fin.base (.id' ?_ (.int _ _)))
  rfl

/-- Levels in range. -/
def lrg (l : List Int) : Prop := ∀ i, -4095 ≤ intAt l i ∧ intAt l i ≤ 4095
def dqf (l : List Int) (m : List UInt8) (q : Int) (k : Nat) : Int := intAt l k * (byt m k * q * intAt gnL k)
theorem dqf_fil (l : List Int) (m : List UInt8) (q : Int) : fil (dqf l m q) 64 = dqz l m q := fil_64 _
theorem mx_at {m : List UInt8} (h : mxOk m = true) {k : Nat} (hk : k < m.length) : 8 ≤ byt m k := by
  unfold mxOk at h
  rw [List.all_eq_true] at h
  have := of_decide_eq_true (h m[k] (List.getElem_mem hk))
  simp only [byt, List.getD_eq_getElem?_getD, List.getElem?_eq_getElem hk, Option.getD_some]
  omega
theorem dqf_bd {l : List Int} {m : List UInt8} {q : Int} (hl : lrg l) (hq : 1 ≤ q ∧ q ≤ 31) (k : Nat) : (0 ≤ byt m k * q * intAt gnL k ∧ byt m k * q * intAt gnL k ≤ 284580) ∧ -1165355100 ≤ dqf l m q k ∧ dqf l m q k ≤ 1165355100 := by
  have h1 := byt_range m k
  have b1 := mulb (a := byt m k) (b := q) (A := 255) (B := 31) (by omega) (by omega)
  have b2 := mulb (a := byt m k * q) (b := intAt gnL k) (A := 7905) (B := 36) (by omega) (gn_bd k)
  refine ⟨by omega, ?_⟩
  exact mul_bd (hl k) (show -284580 ≤ _ ∧ _ ≤ (284580 : Int) by omega)

set_option maxHeartbeats 1600000 in
set_option maxRecDepth 100000 in
theorem dequant_ok (l : List Int) (m : List UInt8) (q : Int) (hl : l.length = 64) (hlr : lrg l) (hm : m.length = 64) (hmx : mxOk m = true) (hq : qnB q = true) (H : Heap) :
    CallOk Tryz.prog 156 [.agg (is l), .agg (bs m), .int .i64 q] H (.tup [.agg (is (dqz l m q)), .int .i64 0]) H := by
  have hall := is_cell l
  have hall2 : (bs m).all PV.cell = true := by simp [bs, PV.cell]
  have vm := fun K => mx_ok m K hm
  rw [hmx] at vm
  have vq := fun K => qn_ok q K
  rw [hq] at vq
  have q1 := qnB_of hq
  have hz := fil_0 (dqf l m q)
  have tkm : List.take 64 (bs m) = bs m := List.take_of_length_le (by rw [length_bs]; omega)
  have tkl : List.take 64 (is l) = is l := List.take_of_length_le (by rw [is_len]; omega)
  refine CallOk.body (F0 := [(0, .agg (is l)), (1, .agg (bs m)), (2, .int .i64 q)]) Tryz.func156 rfl Tryz.ntmps156 Tryz.results156 rfl (by kernel_rfl) rfl ?_
  (repeat refine PW.seq ?_); refine PW.rg rfl fun K hK => ?_; simp (disch := omega) only [go_sem, ↓reduceIte, reduceCtorEq, pappend, plen, hall, hall2]; refine hK _ _ ?_; clear hK K
  (repeat refine PW.seq ?_)
  refine PW.rgv (P := Tryz.prog) [2, 3, 4, 6, 7] 18 (.bool false) ?_ ?_ ?_
  · rfl
  · simp (disch := omega) only [go_sem, ↓reduceIte, reduceCtorEq, pappend, plen, length_bs, tkm]; (repeat' (first | ((first | refine VO_cond ?_ ?_ | refine VOd_cond ?_ ?_ | refine VOg_cond ?_ ?_ | refine VOh_cond ?_ ?_ | refine VOi_cond ?_ ?_ | refine And.intro ?_ ?_) <;> intro h <;> (try simp only [Bool.not_eq_true', Bool.not_eq_false', decide_eq_true_eq, decide_eq_false_iff_not] at h) <;> simp (disch := omega) only [go_sem, ↓reduceIte, reduceCtorEq, pappend, plen, length_bs, tkm, h]) | ((first | refine VCx.call (vm _) rfl ?_ | refine VCx.call (vq _) rfl ?_ | refine VCy.call (vm _) rfl ?_ | refine VCy.call (vq _) rfl ?_ | refine VCz.call (fun _ => vm _) rfl ?_ | refine VCz.call (fun _ => vq _) rfl ?_ | refine VCk.call (fun _ _ => vm _) rfl ?_ | refine VCk.call (fun _ _ => vq _) rfl ?_ | refine VCj.now (vm _) rfl ?_ | refine VCj.now (vq _) rfl ?_); simp (disch := omega) only [go_sem, ↓reduceIte, reduceCtorEq, pappend, plen, length_bs, tkm])))
    all_goals (simp_all [slot, Nat.beq] <;> first | rfl | omega | (rw [Bool.eq_iff_iff]; simp; done) | (rw [Bool.eq_iff_iff]; simp; omega))
  (repeat refine PW.seq ?_); refine PW.cond (t := _) rfl (fun h => ?_) (fun h => ?_)
  · cases h
  refine PW.skip ?_
  (repeat refine PW.seq ?_); refine PW.rg rfl fun K hK => ?_; simp (disch := omega) only [go_sem, ↓reduceIte, reduceCtorEq, pappend, plen]; refine hK _ _ ?_; clear hK K
  (repeat refine PW.seq ?_); refine PW.rg rfl fun K hK => ?_; simp (disch := omega) only [go_sem, ↓reduceIte, reduceCtorEq, pappend, plen, is_len, tkl]; refine hK _ _ ?_; clear hK K
  (repeat refine PW.seq ?_); refine PW.block (PW.loop ?_)
  suffices h1 : ∀ k : Nat, k ≤ 64 → PL Tryz.prog _ _ [(2, .int .i64 q), (4, .ptr (H.length + 1) 0 0), (6, .ptr (H.length + 2) 0 0), (8, .ptr (H.length + 3) 0 0), (20, .agg (is l)), (21, .int .i64 (k : Int))] (H ++ [⟨47, 0, is l⟩, ⟨36, 0, bs m⟩, ⟨47, 0, is zi⟩, ⟨47, 0, is (fil (dqf l m q) k)⟩]) _ by
    exact PL.at [2, 4, 6, 8, 20, 21] (h1 0 (by omega)) rfl (by rw [hz]; rfl)
  refine cnt 64 (fun k hk ih => ?_) ?_
  · refine PL.round ?_; (repeat refine PW.seq ?_); refine PW.rg rfl fun K hK => ?_; simp (disch := omega) only [go_sem, ↓reduceIte, reduceCtorEq, pappend, plen]; refine hK _ _ ?_; clear hK K; (repeat refine PW.seq ?_); refine PW.cond (t := _) rfl (fun h => ?_) (fun h => ?_)
    rotate_left
    · cases h
    obtain ⟨b1, b2⟩ := hlr k
    refine PW.skip ?_; (repeat refine PW.seq ?_); refine PW.block ?_
    (repeat refine PW.seq ?_); refine PW.rg rfl fun K hK => ?_; simp (disch := omega) only [go_sem, ↓reduceIte, reduceCtorEq, pappend, plen, is_get, is_len, hl]; refine hK _ _ ?_; clear hK K
    (repeat refine PW.seq ?_)
    refine PW.rgv (P := Tryz.prog) [2, 4, 6, 8, 9, 10, 20, 21] 30 (.bool false) ?_ ?_ ?_
    · rfl
    · simp (disch := omega) only [go_sem, ↓reduceIte, reduceCtorEq, pappend, plen]; (repeat' ((first | refine VO_cond ?_ ?_ | refine VOd_cond ?_ ?_ | refine VOg_cond ?_ ?_ | refine VOh_cond ?_ ?_ | refine VOi_cond ?_ ?_ | refine And.intro ?_ ?_) <;> intro h <;> (try simp only [Bool.not_eq_true', Bool.not_eq_false', decide_eq_true_eq, decide_eq_false_iff_not] at h) <;> simp (disch := omega) only [go_sem, ↓reduceIte, reduceCtorEq, pappend, plen, h]))
      all_goals (simp_all [slot, Nat.beq] <;> first | rfl | omega | (rw [Bool.eq_iff_iff]; simp; done) | (rw [Bool.eq_iff_iff]; simp; omega))
    (repeat refine PW.seq ?_); refine PW.cond (t := _) rfl (fun h => ?_) (fun h => ?_)
    · cases h
    refine PW.skip ?_
    have m8 := mx_at hmx (show k < m.length by omega)
    have m9 := byt_range m k
    have st := fun K => step_ok (byt m k) q k K ⟨m8, m9.2⟩ hq hk
    obtain ⟨d1, d2⟩ := dqf_bd (m := m) hlr q1 k
    rw [dqf] at d2
    have f1 := fil_set (dqf l m q) k
    rw [dqf] at f1
    have f2 := fil_len (dqf l m q) k
    (repeat refine PW.seq ?_); refine PW.rg rfl fun K hK => ?_; simp (disch := omega) only [go_sem, ↓reduceIte, reduceCtorEq, pappend, plen, bs_get, length_bs, hm, is_len, f2, is_set, f1]; refine VCx.call (st _) rfl ?_; simp (disch := omega) only [go_sem, ↓reduceIte, reduceCtorEq, pappend, plen, bs_get, length_bs, hm, is_len, f2, is_set, f1]; refine hK _ _ ?_; clear hK K
    (repeat refine PW.seq ?_); refine PW.rg rfl fun K hK => ?_; simp (disch := omega) only [go_sem, ↓reduceIte, reduceCtorEq, pappend, plen]; refine hK _ _ ?_; clear hK K
    exact PL.at [2, 4, 6, 8, 20, 21] ih rfl rfl
  refine PL.round ?_; (repeat refine PW.seq ?_); refine PW.rg rfl fun K hK => ?_; simp (disch := omega) only [go_sem, ↓reduceIte, reduceCtorEq, pappend, plen]; refine hK _ _ ?_; clear hK K; (repeat refine PW.seq ?_); refine PW.cond (t := _) rfl (fun h => ?_) (fun h => ?_)
  · cases h
  refine PW.exit ?_
  have c3 := fil_len (dqf l m q) 64
  have c4 : (is (fil (dqf l m q) 64)).length = 64 := by rw [is_len, c3]
  have c5 := is_cell (fil (dqf l m q) 64)
  have c6 : List.take 64 (is (fil (dqf l m q) 64)) = is (fil (dqf l m q) 64) := List.take_of_length_le (by omega)
  have z3 : (is zi).length = 64 := by rw [is_len, zi_len]
  have z4 : List.drop 64 (is zi) = [] := List.drop_of_length_le (by omega)
  (repeat refine PW.seq ?_); refine PW.rg rfl fun K hK => ?_; simp (disch := omega) only [go_sem, ↓reduceIte, reduceCtorEq, pappend, plen, c4, c5, c6, z3, z4]; refine hK _ _ ?_; clear hK K
  rw [← dqf_fil]
  refine PW.ret ⟨.tup [.agg (is (fil (dqf l m q) 64)), .int .i64 0], by simp (disch := omega) only [go_sem, ↓reduceIte, reduceCtorEq, pappend, plen, presults, presult, List.mapM_cons, List.mapM_nil, Option.pure_def, Option.bind_eq_bind, Option.bind_some, Array.toList, c4, c6], ?_⟩
  refine Fin.base (.id (.tup (asc fun x hx => ?_)))
  simp only [List.mem_cons, List.not_mem_nil, or_false] at hx
  rcases hx with rfl | rfl
  · exact ag_scoped (is_scoped _ _)
  · exact .int _ _

end Go.Proofs.YtahomnplappbpaaGreatDoor.Sc

namespace Go.Proofs.YtahomnplappbpaaGreatDoor.Sc
set_option linter.all false
set_option linter.unusedVariables false
set_option linter.unusedSimpArgs false
open Pm Ty Go.RowKit

def f0 : Fm := ⟨0, 0, [], [], []⟩
def badA (c : Cx) (dir sel : Int) : Bool := !(vcx c) || ((decide (dir ≠ 0) && decide (dir ≠ 1)) || (fcx c && (decide (sel ≠ 0) && decide (sel ≠ 1))))
def pickF (c : Cx) (pa fu fi : Fm) (dir sel : Int) : Fm × Bool := if dir = 1 then (fu, !(fcx c)) else if (c.n && (decide (c.t = 2) && decide (sel ≠ pcx c))) = true then (fi, true) else (pa, !(fcx c))
def fieldOf (f : Fm) (sel : Int) : Fm := fld (f.w / 2).toNat (f.h / 4).toNat sel.toNat f.y f.u f.v
def lastF (f : Fm) (wh : Bool) (sel : Int) : Fm × Int := if f.w = 0 then (f0, 6) else if (!(fvd f) || (!wh && decide (f.h % 32 ≠ 0))) = true then (f0, 1) else if wh = true then (f, 0) else (fieldOf f sel, 0)
/-- What Reference answers. -/
def refS (c : Cx) (pa fu fi : Fm) (dir sel : Int) : Fm × Int := if badA c dir sel = true then (f0, 1) else lastF (pickF c pa fu fi dir sel).1 (pickF c pa fu fi dir sel).2 sel
theorem fz0 (n : Nat) (K : Heap) (e : Int) : Fz n K (.tup [.agg [.int .i64 0, .int .i64 0, .slice [] 0 true, .slice [] 0 true, .slice [] 0 true], .int .i64 e]) (.tup [.agg (fmc f0), .int .i64 e]) :=
  Fz.tupC ⟨Fz.aggC ⟨.id (.int _ _), .id (.int _ _), .slice rfl (fun j x y hx => by simp at hx) (fun e => by cases e), .slice rfl (fun j x y hx => by simp at hx) (fun e => by cases e), .slice rfl (fun j x y hx => by simp at hx) (fun e => by cases e), trivial⟩, .id (.int _ _), trivial⟩
theorem fvd_fr4 {w ht : Int} {y u v : List UInt8} (h : fvd ⟨w, ht, y, u, v⟩ = true) (h32 : ht % 32 = 0) : ∃ V K : Nat, w = ((2 * V : Nat) : Int) ∧ ht = ((4 * K : Nat) : Int) ∧ Fok V K y u v := by
  simp only [fvd, fmd, Bool.and_eq_true, decide_eq_true_eq] at h
  obtain ⟨⟨hs, hy, hu, hv⟩, hw, hh⟩ := h
  obtain ⟨g1, g2, g3, g4, g5, g6⟩ := fsz_of hs
  refine ⟨(w / 2).toNat, (ht / 4).toNat, by omega, by omega, ?_⟩
  obtain ⟨V, hV⟩ : ∃ V : Nat, (w / 2).toNat = V := ⟨_, rfl⟩
  obtain ⟨K, hK⟩ : ∃ K : Nat, (ht / 4).toNat = K := ⟨_, rfl⟩
  rw [hV, hK]
  have e1 : w = ((2 * V : Nat) : Int) := by omega
  have e2 : ht = ((4 * K : Nat) : Int) := by omega
  have e3 : 2 * K * (2 * (2 * V)) = 2 * V * (4 * K) := by rw [show 2 * (2 * V) = 4 * V by omega, Nat.mul_mul_mul_comm, Nat.mul_mul_mul_comm 2 V 4 K, Nat.mul_comm K V]
  have e4 : K * (2 * V) = V * (2 * K) := by rw [Nat.mul_comm K, Nat.mul_comm 2 V, Nat.mul_assoc]
  have d1 : w / 2 = (V : Int) := by omega
  have d2 : ht / 2 = ((2 * K : Nat) : Int) := by omega
  rw [d1, d2] at hu hv
  rw [e1, e2] at hy
  refine ⟨by omega, by omega, ?_, ?_, ?_⟩
  · rw [e3]; exact Int.ofNat_inj.1 (hy.trans (Int.natCast_mul _ _).symm)
  · rw [e4]; exact Int.ofNat_inj.1 (hu.trans (Int.natCast_mul _ _).symm)
  · rw [e4]; exact Int.ofNat_inj.1 (hv.trans (Int.natCast_mul _ _).symm)
theorem fieldOf_fr4 (V K P : Nat) (y u v : List UInt8) : fieldOf (fr4 V K y u v) (P : Int) = fld V K P y u v := by
  have e1 : (((2 * V : Nat) : Int) / 2).toNat = V := by omega
  have e2 : (((4 * K : Nat) : Int) / 4).toNat = K := by omega
  simp only [fieldOf, fr4, e1, e2, Int.toNat_natCast]

set_option maxHeartbeats 1600000 in
set_option maxRecDepth 10000 in
theorem reference_ok (c : Cx) (pa fu fi : Fm) (dir sel : Int) (H : Heap) : CallOk Tryz.prog 163 [.agg (cxc c), .agg (fmc pa ++ (fmc fu ++ fmc fi)), .int .i64 dir, .int .i64 sel] H (.tup [.agg (fmc (refS c pa fu fi dir sel).1), .int .i64 (refS c pa fu fi dir sel).2]) H := by
  generalize hr : refS c pa fu fi dir sel = r
  have vc := fun H => vcx_ok c H
  have fc := fun H => fcx_ok c H
  have pc := fun H => pcx_ok c H
  obtain ⟨t, s, i, n⟩ := c
  obtain ⟨w1, h1, y1, u1, v1⟩ := pa
  obtain ⟨w2, h2, y2, u2, v2⟩ := fu
  obtain ⟨w3, h3, y3, u3, v3⟩ := fi
  simp only [fmc, List.cons_append, List.nil_append]
  refine CallOk.body (F0 := [(0, .agg [.int .i64 t, .int .i64 s, .bool i, .bool n]), (1, .agg [.int .i64 w1, .int .i64 h1, .slice (bs y1) y1.length false, .slice (bs u1) u1.length false, .slice (bs v1) v1.length false, .int .i64 w2, .int .i64 h2, .slice (bs y2) y2.length false, .slice (bs u2) u2.length false, .slice (bs v2) v2.length false, .int .i64 w3, .int .i64 h3, .slice (bs y3) y3.length false, .slice (bs u3) u3.length false, .slice (bs v3) v3.length false]), (2, .int .i64 dir), (3, .int .i64 sel)]) Tryz.func163 rfl Tryz.ntmps163 Tryz.results163 rfl (by kernel_rfl) rfl ?_
  (repeat refine PW.seq ?_); refine PW.rg rfl fun K hK => ?_; simp (disch := omega) only [go_sem, ↓reduceIte, reduceCtorEq, pappend, plen]; refine hK _ _ ?_; clear hK K
  (repeat refine PW.seq ?_)
  refine PW.rgv (P := Tryz.prog) [2, 3, 4, 5, 8] 34 (.bool (badA ⟨t, s, i, n⟩ dir sel)) ?_ ?_ ?_
  · rfl
  · cases hv : vcx ⟨t, s, i, n⟩ <;> cases hf : fcx ⟨t, s, i, n⟩
    all_goals (rw [hv] at vc; rw [hf] at fc; simp (disch := omega) only [go_sem, ↓reduceIte, reduceCtorEq, pappend, plen]; (repeat' (first | ((first | refine VO_cond ?_ ?_ | refine VOd_cond ?_ ?_ | refine VOg_cond ?_ ?_ | refine VOh_cond ?_ ?_ | refine VOi_cond ?_ ?_ | refine And.intro ?_ ?_) <;> intro h <;> (try simp only [Bool.not_eq_true', Bool.not_eq_false', decide_eq_true_eq, decide_eq_false_iff_not] at h) <;> simp (disch := omega) only [go_sem, ↓reduceIte, reduceCtorEq, pappend, plen, h]) | ((first | refine VCx.call (vc _) rfl ?_ | refine VCx.call (fc _) rfl ?_ | refine VCy.call (vc _) rfl ?_ | refine VCy.call (fc _) rfl ?_ | refine VCz.call (fun _ => vc _) rfl ?_ | refine VCz.call (fun _ => fc _) rfl ?_ | refine VCk.call (fun _ _ => vc _) rfl ?_ | refine VCk.call (fun _ _ => fc _) rfl ?_ | refine VCj.now (vc _) rfl ?_ | refine VCj.now (fc _) rfl ?_); simp (disch := omega) only [go_sem, ↓reduceIte, reduceCtorEq, pappend, plen]))))
    all_goals (clear vc fc pc hr; (simp_all [badA, slot, Nat.beq] <;> first | rfl | omega | (rw [Bool.eq_iff_iff]; simp; done) | (rw [Bool.eq_iff_iff]; simp; omega)))
  (repeat refine PW.seq ?_); refine PW.cond (t := _) rfl (fun h => ?_) (fun h => ?_)
  · have hb : badA ⟨t, s, i, n⟩ dir sel = true := h
    (repeat refine PW.seq ?_); refine PW.rg rfl fun K hK => ?_; simp (disch := omega) only [go_sem, ↓reduceIte, reduceCtorEq, pappend, plen]; refine hK _ _ ?_; clear hK K
    refine PW.ret ⟨.tup [.agg [.int .i64 0, .int .i64 0, .slice [] 0 true, .slice [] 0 true, .slice [] 0 true], .int .i64 1], by simp (disch := omega) only [go_sem, ↓reduceIte, reduceCtorEq, pappend, plen, presults, presult, List.mapM_cons, List.mapM_nil, Option.pure_def, Option.bind_eq_bind, Option.bind_some, Array.toList], ?_⟩
    rw [← hr, refS, if_pos hb]
    exact Fin.base (fz0 _ _ _)
  have hb : badA ⟨t, s, i, n⟩ dir sel = false := h
  refine PW.skip ?_
  (repeat refine PW.seq ?_); refine PW.drawg mix (by kernel_rfl) fun K hK => ?_; simp (disch := omega) only [go_sem, ↓reduceIte, reduceCtorEq, pappend, plen]; refine VCz.call (fun _ => fc _) rfl ?_; simp (disch := omega) only [go_sem, ↓reduceIte, reduceCtorEq, pappend, plen]; refine hK _ _ ?_; clear hK K
  have hr2 : lastF (pickF ⟨t, s, i, n⟩ ⟨w1, h1, y1, u1, v1⟩ ⟨w2, h2, y2, u2, v2⟩ ⟨w3, h3, y3, u3, v3⟩ dir sel).1 (pickF ⟨t, s, i, n⟩ ⟨w1, h1, y1, u1, v1⟩ ⟨w2, h2, y2, u2, v2⟩ ⟨w3, h3, y3, u3, v3⟩ dir sel).2 sel = r := by rw [← hr, refS, if_neg (by rw [hb]; simp)]
  have hwh : (pickF ⟨t, s, i, n⟩ ⟨w1, h1, y1, u1, v1⟩ ⟨w2, h2, y2, u2, v2⟩ ⟨w3, h3, y3, u3, v3⟩ dir sel).2 = false → sel = 0 ∨ sel = 1 := fun hw => by
    have hf : fcx ⟨t, s, i, n⟩ = true := by
      unfold pickF at hw
      split at hw
      · simpa using hw
      · split at hw
        · cases hw
        · simpa using hw
    rw [badA, hf] at hb
    simp at hb
    omega
  generalize hpk : pickF ⟨t, s, i, n⟩ ⟨w1, h1, y1, u1, v1⟩ ⟨w2, h2, y2, u2, v2⟩ ⟨w3, h3, y3, u3, v3⟩ dir sel = pk1 at hr2 hwh
  obtain ⟨⟨w, ht, y, u, v⟩, wh⟩ := pk1
  simp only at hr2 hwh
  refine PW.to [3, 8, 10, 11] [(3, .int .i64 sel), (8, .ptr (H.length + 2) 0 0), (10, .ptr (H.length + 3) 0 0), (11, .bool wh)] (H ++ [⟨104, 0, [.int .i64 t, .int .i64 s, .bool i, .bool n]⟩, ⟨55, 0, [.int .i64 w1, .int .i64 h1, .slice (bs y1) y1.length false, .slice (bs u1) u1.length false, .slice (bs v1) v1.length false, .int .i64 w2, .int .i64 h2, .slice (bs y2) y2.length false, .slice (bs u2) u2.length false, .slice (bs v2) v2.length false, .int .i64 w3, .int .i64 h3, .slice (bs y3) y3.length false, .slice (bs u3) u3.length false, .slice (bs v3) v3.length false]⟩, ⟨53, 0, [.int .i64 0, .int .i64 0, .slice [] 0 true, .slice [] 0 true, .slice [] 0 true]⟩, ⟨53, 0, [.int .i64 w, .int .i64 ht, .slice (bs y) y.length false, .slice (bs u) u.length false, .slice (bs v) v.length false]⟩]) ?_ ?_
  · clear hr2 hwh hr
    (repeat refine PW.seq ?_); refine PW.block ?_
    (repeat refine PW.seq ?_); refine PW.rg rfl fun K hK => ?_; simp (disch := omega) only [go_sem, ↓reduceIte, reduceCtorEq, pappend, plen]; refine hK _ _ ?_; clear hK K
    (repeat refine PW.seq ?_); refine PW.cond (t := _) rfl (fun h => ?_) (fun h => ?_)
    · have hd : dir = 1 := by simpa using h
      rw [pickF, if_pos hd] at hpk
      simp only [Prod.mk.injEq, Fm.mk.injEq] at hpk
      obtain ⟨⟨rfl, rfl, rfl, rfl, rfl⟩, rfl⟩ := hpk
      (repeat refine PW.seq ?_); refine PW.rg rfl fun K hK => ?_; simp (disch := omega) only [go_sem, ↓reduceIte, reduceCtorEq, pappend, plen]; refine hK _ _ ?_; clear hK K
      exact ⟨rfl, rfl⟩
    · have hd : dir ≠ 1 := by simpa using h
      rw [pickF, if_neg hd] at hpk
      (repeat refine PW.seq ?_)
      refine PW.rgv (P := Tryz.prog) [3, 5, 8, 10, 11] 46 (.bool (n && (decide (t = 2) && decide (sel ≠ pcx ⟨t, s, i, n⟩)))) ?_ ?_ ?_
      · rfl
      · simp (disch := omega) only [go_sem, ↓reduceIte, reduceCtorEq, pappend, plen]; (repeat' (first | ((first | refine VO_cond ?_ ?_ | refine VOd_cond ?_ ?_ | refine VOg_cond ?_ ?_ | refine VOh_cond ?_ ?_ | refine VOi_cond ?_ ?_ | refine And.intro ?_ ?_) <;> intro h <;> (try simp only [Bool.not_eq_true', Bool.not_eq_false', decide_eq_true_eq, decide_eq_false_iff_not] at h) <;> simp (disch := omega) only [go_sem, ↓reduceIte, reduceCtorEq, pappend, plen, h]) | ((first | refine VCx.call (pcx_ok ⟨_, _, _, _⟩ _) rfl ?_ | refine VCy.call (pcx_ok ⟨_, _, _, _⟩ _) rfl ?_ | refine VCz.call (fun _ => pcx_ok ⟨_, _, _, _⟩ _) rfl ?_ | refine VCk.call (fun _ _ => pcx_ok ⟨_, _, _, _⟩ _) rfl ?_ | refine VCj.now (pcx_ok ⟨_, _, _, _⟩ _) rfl ?_); simp (disch := omega) only [go_sem, ↓reduceIte, reduceCtorEq, pappend, plen])))
        all_goals (clear vc fc pc hpk; first | (simp_all [slot, Nat.beq] <;> first | rfl | omega | (rw [Bool.eq_iff_iff]; simp; done) | (rw [Bool.eq_iff_iff]; simp; omega)) | (simp_all [pcx, slot, Nat.beq] <;> first | rfl | omega | (rw [Bool.eq_iff_iff]; simp; done) | (rw [Bool.eq_iff_iff]; simp; omega)))
      (repeat refine PW.seq ?_); refine PW.cond (t := _) rfl (fun h => ?_) (fun h => ?_)
      · rw [if_pos h] at hpk
        simp only [Prod.mk.injEq, Fm.mk.injEq] at hpk
        obtain ⟨⟨rfl, rfl, rfl, rfl, rfl⟩, rfl⟩ := hpk
        (repeat refine PW.seq ?_); refine PW.rg rfl fun K hK => ?_; simp (disch := omega) only [go_sem, ↓reduceIte, reduceCtorEq, pappend, plen]; refine hK _ _ ?_; clear hK K
        exact ⟨rfl, rfl⟩
      · rw [if_neg (by rw [h]; simp)] at hpk
        simp only [Prod.mk.injEq, Fm.mk.injEq] at hpk
        obtain ⟨⟨rfl, rfl, rfl, rfl, rfl⟩, rfl⟩ := hpk
        refine PW.skip ?_
        exact ⟨rfl, rfl⟩
  clear hpk hr hb vc fc pc
  (repeat refine PW.seq ?_); refine PW.rg rfl fun K hK => ?_; simp (disch := omega) only [go_sem, ↓reduceIte, reduceCtorEq, pappend, plen]; refine hK _ _ ?_; clear hK K
  (repeat refine PW.seq ?_); refine PW.cond (t := _) rfl (fun h => ?_) (fun h => ?_)
  · have hw0 : w = 0 := by simpa using h
    (repeat refine PW.seq ?_); refine PW.rg rfl fun K hK => ?_; simp (disch := omega) only [go_sem, ↓reduceIte, reduceCtorEq, pappend, plen]; refine hK _ _ ?_; clear hK K
    refine PW.ret ⟨.tup [.agg [.int .i64 0, .int .i64 0, .slice [] 0 true, .slice [] 0 true, .slice [] 0 true], .int .i64 6], by simp (disch := omega) only [go_sem, ↓reduceIte, reduceCtorEq, pappend, plen, presults, presult, List.mapM_cons, List.mapM_nil, Option.pure_def, Option.bind_eq_bind, Option.bind_some, Array.toList], ?_⟩
    rw [← hr2, lastF, if_pos hw0]
    exact Fin.base (fz0 _ _ _)
  have hw0 : w ≠ 0 := by simpa using h
  rw [lastF, if_neg (by exact hw0)] at hr2
  refine PW.skip ?_
  have va := fun H => valid_ok ⟨w, ht, y, u, v⟩ H
  (repeat refine PW.seq ?_)
  refine PW.rgv (P := Tryz.prog) [3, 8, 10, 11] 78 (.bool (!(fvd ⟨w, ht, y, u, v⟩) || (!wh && decide (ht % 32 ≠ 0)))) ?_ ?_ ?_
  · rfl
  · cases hv : fvd ⟨w, ht, y, u, v⟩
    · rw [hv] at va
      simp (disch := omega) only [go_sem, ↓reduceIte, reduceCtorEq, pappend, plen]; (repeat' (first | ((first | refine VO_cond ?_ ?_ | refine VOd_cond ?_ ?_ | refine VOg_cond ?_ ?_ | refine VOh_cond ?_ ?_ | refine VOi_cond ?_ ?_ | refine And.intro ?_ ?_) <;> intro h <;> (try simp only [Bool.not_eq_true', Bool.not_eq_false', decide_eq_true_eq, decide_eq_false_iff_not] at h) <;> simp (disch := omega) only [go_sem, ↓reduceIte, reduceCtorEq, pappend, plen, h]) | ((first | refine VCx.call (va _) rfl ?_ | refine VCy.call (va _) rfl ?_ | refine VCz.call (fun _ => va _) rfl ?_ | refine VCk.call (fun _ _ => va _) rfl ?_ | refine VCj.now (va _) rfl ?_); simp (disch := omega) only [go_sem, ↓reduceIte, reduceCtorEq, pappend, plen])))
      all_goals (clear va hr2 hwh; (simp_all [slot, Nat.beq] <;> first | rfl | omega | (rw [Bool.eq_iff_iff]; simp; done) | (rw [Bool.eq_iff_iff]; simp; omega)))
    · rw [hv] at va
      have hpos : 0 ≤ ht := by
        simp only [fvd, fmd, Bool.and_eq_true] at hv
        have := fsz_of hv.1.1
        omega
      simp (disch := omega) only [go_sem, ↓reduceIte, reduceCtorEq, pappend, plen]; (repeat' (first | ((first | refine VO_cond ?_ ?_ | refine VOd_cond ?_ ?_ | refine VOg_cond ?_ ?_ | refine VOh_cond ?_ ?_ | refine VOi_cond ?_ ?_ | refine And.intro ?_ ?_) <;> intro h <;> (try simp only [Bool.not_eq_true', Bool.not_eq_false', decide_eq_true_eq, decide_eq_false_iff_not] at h) <;> simp (disch := omega) only [go_sem, ↓reduceIte, reduceCtorEq, pappend, plen, tmod_pos, h]) | ((first | refine VCx.call (va _) rfl ?_ | refine VCy.call (va _) rfl ?_ | refine VCz.call (fun _ => va _) rfl ?_ | refine VCk.call (fun _ _ => va _) rfl ?_ | refine VCj.now (va _) rfl ?_); simp (disch := omega) only [go_sem, ↓reduceIte, reduceCtorEq, pappend, plen, tmod_pos])))
      all_goals (clear va hr2 hwh; (simp_all [slot, Nat.beq] <;> first | rfl | omega | (rw [Bool.eq_iff_iff]; simp; done) | (rw [Bool.eq_iff_iff]; simp; omega)))
  (repeat refine PW.seq ?_); refine PW.cond (t := _) rfl (fun h => ?_) (fun h => ?_)
  · have hq : (!(fvd ⟨w, ht, y, u, v⟩) || (!wh && decide (ht % 32 ≠ 0))) = true := h
    (repeat refine PW.seq ?_); refine PW.rg rfl fun K hK => ?_; simp (disch := omega) only [go_sem, ↓reduceIte, reduceCtorEq, pappend, plen]; refine hK _ _ ?_; clear hK K
    refine PW.ret ⟨.tup [.agg [.int .i64 0, .int .i64 0, .slice [] 0 true, .slice [] 0 true, .slice [] 0 true], .int .i64 1], by simp (disch := omega) only [go_sem, ↓reduceIte, reduceCtorEq, pappend, plen, presults, presult, List.mapM_cons, List.mapM_nil, Option.pure_def, Option.bind_eq_bind, Option.bind_some, Array.toList], ?_⟩
    rw [if_pos hq] at hr2
    rw [← hr2]
    exact Fin.base (fz0 _ _ _)
  have hq : (!(fvd ⟨w, ht, y, u, v⟩) || (!wh && decide (ht % 32 ≠ 0))) = false := h
  rw [if_neg (by rw [hq]; simp)] at hr2
  refine PW.skip ?_
  (repeat refine PW.seq ?_); refine PW.rg rfl fun K hK => ?_; simp (disch := omega) only [go_sem, ↓reduceIte, reduceCtorEq, pappend, plen]; refine hK _ _ ?_; clear hK K
  (repeat refine PW.seq ?_); refine PW.cond (t := _) rfl (fun h => ?_) (fun h => ?_)
  · subst h
    (repeat refine PW.seq ?_); refine PW.rg rfl fun K hK => ?_; simp (disch := omega) only [go_sem, ↓reduceIte, reduceCtorEq, pappend, plen]; refine hK _ _ ?_; clear hK K
    refine PW.ret ⟨.tup [.agg [.int .i64 w, .int .i64 ht, .slice (bs y) y.length false, .slice (bs u) u.length false, .slice (bs v) v.length false], .int .i64 0], by simp (disch := omega) only [go_sem, ↓reduceIte, reduceCtorEq, pappend, plen, presults, presult, List.mapM_cons, List.mapM_nil, Option.pure_def, Option.bind_eq_bind, Option.bind_some, Array.toList], ?_⟩
    rw [if_pos rfl] at hr2
    rw [← hr2]
    exact Fin.base (.id (fe_scoped _ _ _ _ _ _ _ _ _ _))
  · subst h
    refine PW.skip ?_
    have hq1 : fvd ⟨w, ht, y, u, v⟩ = true := by
      cases hv : fvd ⟨w, ht, y, u, v⟩ with
      | true => rfl
      | false => rw [hv] at hq; cases hq
    have hq2 : ht % 32 = 0 := by rw [hq1] at hq; simp at hq; omega
    obtain ⟨V, K, rfl, rfl, hok⟩ := fvd_fr4 hq1 hq2
    obtain ⟨P, hP, rfl⟩ : ∃ P : Nat, P ≤ 1 ∧ sel = (P : Int) := by
      rcases hwh rfl with e | e
      · exact ⟨0, by omega, by omega⟩
      · exact ⟨1, by omega, by omega⟩
    have fo := fun H => field_ok V K P y u v H hok hP
    have e1 := fieldOf_fr4 V K P y u v
    rw [if_neg (by simp)] at hr2
    have hr3 : r = (fld V K P y u v, 0) := by rw [← hr2, ← e1]; rfl
    rw [hr3]
    obtain ⟨g, hg⟩ : ∃ g, fld V K P y u v = g := ⟨_, rfl⟩
    rw [hg] at fo ⊢
    obtain ⟨a1, a2, a3, a4, a5⟩ := g
    simp only [fmc, fr4] at fo ⊢
    (repeat refine PW.seq ?_); refine PW.rg rfl fun K hK => ?_; simp (disch := omega) only [go_sem, ↓reduceIte, reduceCtorEq, pappend, plen]; refine VCx.call (fo _) rfl ?_; simp (disch := omega) only [go_sem, ↓reduceIte, reduceCtorEq, pappend, plen]; refine hK _ _ ?_; clear hK K
    refine PW.ret ⟨.tup [.agg [.int .i64 a1, .int .i64 a2, .slice (bs a3) a3.length false, .slice (bs a4) a4.length false, .slice (bs a5) a5.length false], .int .i64 0], by simp (disch := omega) only [go_sem, ↓reduceIte, reduceCtorEq, pappend, plen, presults, presult, List.mapM_cons, List.mapM_nil, Option.pure_def, Option.bind_eq_bind, Option.bind_some, Array.toList], ?_⟩
    exact Fin.base (.id (fe_scoped _ _ _ _ _ _ _ _ _ _))

end Go.Proofs.YtahomnplappbpaaGreatDoor.Sc
