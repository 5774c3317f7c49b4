/-
  Parts of the proof, put together in one text. No condition.
-/
import Derived.Test.YtahomnplappbpaaGreatDoorW37
import Derived.Test.YtahomnplappbpaaGreatDoorW27
namespace Go.Proofs.YtahomnplappbpaaGreatDoor.Sc
set_option linter.all false
set_option linter.unusedVariables false
set_option linter.unusedSimpArgs false
open Pm Ty Go.RowKit

theorem scan_refA (al : Bool) (H : Heap) : CallOk Tryz.prog 95 [.bool al] H (.agg (is (sca al))) H := by
  cases al
  · exact CallOk.evalV 1000000 (by kernel_rfl) (bool1 _)
  · exact CallOk.evalV 1000000 (by kernel_rfl) (bool1 _)

set_option maxHeartbeats 1600000 in
set_option maxRecDepth 100000 in
theorem fromScan_ref (l : List Int) (al : Bool) (hl : l.length = 64) (H : Heap) : CallOk Tryz.prog 39 [.agg (is l), .bool al] H (.agg (is (frs l al))) H := by
  have hall := is_cell l
  have hall2 := is_cell (sca al)
  have sc := fun K => scan_refA al K
  have sl := sca_len al
  have sd : List.drop 64 (is zi) = [] := List.drop_of_length_le (by rw [is_len, zi_len]; omega)
  refine CallOk.body (F0 := [(0, .agg (is l)), (1, .bool al)]) Tryz.func39 rfl Tryz.ntmps39 Tryz.results39 rfl (by kernel_rfl) rfl ?_
  (repeat refine PW.seq ?_); refine PW.rg rfl fun K hK => ?_; simp (disch := omega) only [go_sem, ↓reduceIte, reduceCtorEq, pappend, plen, hall]; refine hK _ _ ?_; clear hK K
  (repeat refine PW.seq ?_); refine PW.rg rfl fun K hK => ?_; simp (disch := omega) only [go_sem, ↓reduceIte, reduceCtorEq, pappend, plen, hall2, is_len, sl, zi_len, sd]; refine VCx.call (sc _) rfl ?_; simp (disch := omega) only [go_sem, ↓reduceIte, reduceCtorEq, pappend, plen, hall2, is_len, sl, zi_len, sd]; refine hK _ _ ?_; clear hK K
  (repeat refine PW.seq ?_); refine PW.rg rfl fun K hK => ?_; simp (disch := omega) only [go_sem, ↓reduceIte, reduceCtorEq, pappend, plen]; refine hK _ _ ?_; clear hK K
  (repeat refine PW.seq ?_); refine PW.rg rfl fun K hK => ?_; simp (disch := omega) only [go_sem, ↓reduceIte, reduceCtorEq, pappend, plen]; refine hK _ _ ?_; clear hK K
  (repeat refine PW.seq ?_); refine PW.block (PW.loop ?_)
  suffices h1 : ∀ p : Nat, p ≤ 64 → PL Tryz.prog _ _ [(2, .ptr H.length 0 0), (4, .ptr (H.length + 1) 0 0), (5, .ptr (H.length + 2) 0 0), (6, .ptr (H.length + 3) 0 0), (7, .int .i64 (p : Int))] (H ++ [⟨47, 0, is l⟩, ⟨47, 0, is zi⟩, ⟨47, 0, is (sca al)⟩, ⟨47, 0, is (frn l (sca al) p)⟩]) _ by
    exact PL.at [2, 4, 5, 6, 7] (h1 0 (by omega)) rfl rfl
  refine cnt 64 (fun p hp ih => ?_) ?_
  · refine PL.round ?_; (repeat refine PW.seq ?_); refine PW.rg rfl fun K hK => ?_; simp (disch := omega) only [go_sem, ↓reduceIte, reduceCtorEq, pappend, plen]; refine hK _ _ ?_; clear hK K; (repeat refine PW.seq ?_); refine PW.cond (t := _) rfl (fun h => ?_) (fun h => ?_)
    rotate_left
    · cases h
    obtain ⟨b1, b2⟩ := sca_bd al p
    obtain ⟨X, hX⟩ : ∃ X : Nat, intAt (sca al) p = (X : Int) := ⟨(intAt (sca al) p).toNat, by omega⟩
    have f1 := frn_at (l := l) hX
    have f2 := frn_len l (sca al) p
    refine PW.skip ?_; (repeat refine PW.seq ?_); refine PW.block ?_
    (repeat refine PW.seq ?_); refine PW.drawi [H.length + 3] [(6, [0]), (20, [0])] [] [] mix (by kernel_rfl) (by simp <;> omega) fun K hK => ?_
    simp (disch := omega) only [go_sem, ↓reduceIte, reduceCtorEq, pappend, plen, arith, is_get, is_len, sl, hl, hX, f2, is_set, f1]
    refine hK _ _ ?_; clear hK K
    (repeat refine PW.seq ?_); refine PW.rg rfl fun K hK => ?_; simp (disch := omega) only [go_sem, ↓reduceIte, reduceCtorEq, pappend, plen]; refine hK _ _ ?_; clear hK K
    exact PL.at [2, 4, 5, 6, 7] ih rfl rfl
  refine PL.round ?_; (repeat refine PW.seq ?_); refine PW.rg rfl fun K hK => ?_; simp (disch := omega) only [go_sem, ↓reduceIte, reduceCtorEq, pappend, plen]; refine hK _ _ ?_; clear hK K; (repeat refine PW.seq ?_); refine PW.cond (t := _) rfl (fun h => ?_) (fun h => ?_)
  · cases h
  refine PW.exit ?_
  have c3 := frn_len l (sca al) 64
  have c4 : (is (frn l (sca al) 64)).length = 64 := by rw [is_len, c3]
  have c5 := is_cell (frn l (sca al) 64)
  have c6 : List.take 64 (is (frn l (sca al) 64)) = is (frn l (sca al) 64) := List.take_of_length_le (by omega)
  have z3 : (is zi).length = 64 := by rw [is_len, zi_len]
  have z4 : List.drop 64 (is zi) = [] := List.drop_of_length_le (by omega)
  (repeat refine PW.seq ?_); refine PW.rg rfl fun K hK => ?_; simp (disch := omega) only [go_sem, ↓reduceIte, reduceCtorEq, pappend, plen, c4, c5, c6, z3, z4]; refine hK _ _ ?_; clear hK K
  unfold frs
  refine PW.ret ⟨.agg (is (frn l (sca al) 64)), by simp (disch := omega) only [go_sem, ↓reduceIte, reduceCtorEq, pappend, plen, presults, presult, List.mapM_cons, List.mapM_nil, Option.pure_def, Option.bind_eq_bind, Option.bind_some, Array.toList, c4, c6], ?_⟩
  exact Fin.base (.id (ag_scoped (is_scoped _ _)))

set_option maxHeartbeats 3200000 in
theorem step_ref (w q : Int) (k : Nat) (H : Heap) (hw : 8 ≤ w ∧ w ≤ 255) (hq : qnB q = true) (hk : k < 64) : CallOk Tryz.prog 94 [.int .i64 w, .int .i64 q, .int .i64 (k : Int)] H (.int .i64 (w * q * intAt gnL k)) H := by
  have q1 := qnB_of hq
  have n1 := fun H => norm_ref (k / 8) H (by omega)
  have n2 := fun H => norm_ref (k % 8) H (by omega)
  have r1 := nr3 (show k / 8 < 8 by omega)
  have r2 := nr3 (show k % 8 < 8 by omega)
  have b1 := mulb (a := w) (b := q) (A := 255) (B := 31) (by omega) (by omega)
  rw [← gnV_at hk]
  have d1 : (k : Int).tdiv 8 = ((k / 8 : Nat) : Int) := by rw [tdiv_pos _ _ (by omega)]; omega
  have d2 : (k : Int).tmod 8 = ((k % 8 : Nat) : Int) := by rw [tmod_pos _ _ (by omega)]; omega
  generalize intAt nrL (k / 8) = a at n1 r1 ⊢
  generalize intAt nrL (k % 8) = b at n2 r2 ⊢
  refine CallOk.body (F0 := [(0, .int .i64 w), (1, .int .i64 q), (2, .int .i64 (k : Int))]) Tryz.func94 rfl Tryz.ntmps94 Tryz.results94 rfl (by kernel_rfl) rfl ?_
  (repeat refine PW.seq ?_); refine PW.rg rfl fun K hK => ?_; simp (disch := omega) only [go_sem, ↓reduceIte, reduceCtorEq, pappend, plen]; refine hK _ _ ?_; clear hK K
  (repeat refine PW.seq ?_)
  refine PW.rgv (P := Tryz.prog) [0, 1, 2] 29 (.bool false) ?_ ?_ ?_
  · rfl
  · simp (disch := omega) only [go_sem, ↓reduceIte, reduceCtorEq, pappend, plen]; (repeat' ((first | refine VO_cond ?_ ?_ | refine VOd_cond ?_ ?_ | refine VOg_cond ?_ ?_ | refine VOh_cond ?_ ?_ | refine VOi_cond ?_ ?_ | refine And.intro ?_ ?_) <;> intro h <;> (try simp only [Bool.not_eq_true', Bool.not_eq_false', decide_eq_true_eq, decide_eq_false_iff_not] at h) <;> simp (disch := omega) only [go_sem, ↓reduceIte, reduceCtorEq, pappend, plen, h]))
    all_goals (simp_all [slot, Nat.beq] <;> first | rfl | omega | (rw [Bool.eq_iff_iff]; simp; done) | (rw [Bool.eq_iff_iff]; simp; omega))
  (repeat refine PW.seq ?_); refine PW.cond (t := _) rfl (fun h => ?_) (fun h => ?_)
  · cases h
  refine PW.skip ?_
  (repeat refine PW.seq ?_); refine PW.rg rfl fun K hK => ?_; simp (disch := omega) only [go_sem, ↓reduceIte, reduceCtorEq, pappend, plen]; refine hK _ _ ?_; clear hK K
  (repeat refine PW.seq ?_); refine PW.rg rfl fun K hK => ?_; simp (disch := omega) only [go_sem, ↓reduceIte, reduceCtorEq, pappend, plen, d1, d2]; refine VCx.call (n1 _) rfl ?_; simp (disch := omega) only [go_sem, ↓reduceIte, reduceCtorEq, pappend, plen, d1, d2]; refine VCx.call (n2 _) rfl ?_
  rcases r1 with rfl | rfl | rfl <;> rcases r2 with rfl | rfl | rfl
  all_goals (simp (disch := omega) only [go_sem, ↓reduceIte, reduceCtorEq, pappend, plen, Int.reduceMul]; refine hK _ _ ?_; clear hK K; (repeat' (first | refine PW.seq ?_ | refine PW.skip ?_ | refine PW.block ?_ | (refine PW.rg rfl fun K hK => ?_; simp (disch := omega) only [go_sem, ↓reduceIte, reduceCtorEq, pappend, plen, Int.reduceMul]) | (refine PW.draw mix (by kernel_rfl) fun K hK => ?_; simp (disch := omega) only [go_sem, ↓reduceIte, reduceCtorEq, pappend, plen, Int.reduceMul]) | (refine PW.drawg mix (by kernel_rfl) fun K hK => ?_; simp (disch := omega) only [go_sem, ↓reduceIte, reduceCtorEq, pappend, plen, Int.reduceMul]) | (refine PW.drawt [] [] mix (by kernel_rfl) fun K hK => ?_; simp (disch := omega) only [go_sem, ↓reduceIte, reduceCtorEq, pappend, plen, Int.reduceMul]) | ((first | refine VO_cond ?_ ?_ | refine VOd_cond ?_ ?_ | refine VOg_cond ?_ ?_ | refine VOh_cond ?_ ?_ | refine VOi_cond ?_ ?_ | refine And.intro ?_ ?_) <;> intro h <;> (try simp only [Bool.not_eq_true', Bool.not_eq_false', decide_eq_true_eq, decide_eq_false_iff_not] at h) <;> simp (disch := omega) only [go_sem, ↓reduceIte, reduceCtorEq, pappend, plen, Int.reduceMul, h]) | (refine hK _ _ ?_; clear hK K) | (refine PW.cond (t := _) rfl (fun h => ?_) (fun h => ?_) <;> (try (cases h; done)) <;> (try simp only [Bool.not_eq_true', Bool.not_eq_false', decide_eq_true_eq, decide_eq_false_iff_not] at h)))); (refine PW.ret ⟨_, rfl, ?_⟩; first | refine .inl ⟨?_, rfl⟩ | refine Fin.base (.id' ?_ (.bool _)) | refine Fin.base (.id' ?_ (.int _ _))); rfl)

theorem may_ref (m : List UInt8) (q : Int) (hm : m.length = 64) (hmx : mxOk m = true) (hq : qnB q = true) (H : Heap) : CallOk Tryz.prog 93 [.agg (bs m), .int .i64 q] H (.bool true) H := by
  have vm := fun K => mx_ref m K hm
  rw [hmx] at vm
  have q1 := qnB_of hq
  have hall2 : (bs m).all PV.cell = true := by simp [bs, PV.cell]
  have tkm : List.take 64 (bs m) = bs m := List.take_of_length_le (by rw [length_bs]; omega)
  refine CallOk.body (F0 := [(0, .agg (bs m)), (1, .int .i64 q)]) Tryz.func93 rfl Tryz.ntmps93 Tryz.results93 rfl (by kernel_rfl) rfl ?_
  (repeat refine PW.seq ?_); refine PW.rg rfl fun K hK => ?_; simp (disch := omega) only [go_sem, ↓reduceIte, reduceCtorEq, pappend, plen, hall2]; refine hK _ _ ?_; clear hK K
  (repeat refine PW.seq ?_); refine PW.rg rfl fun K hK => ?_; simp (disch := omega) only [go_sem, ↓reduceIte, reduceCtorEq, pappend, plen, length_bs, hm, tkm]; (repeat' (first | ((first | refine VO_cond ?_ ?_ | refine VOd_cond ?_ ?_ | refine VOg_cond ?_ ?_ | refine VOh_cond ?_ ?_ | refine VOi_cond ?_ ?_ | refine And.intro ?_ ?_) <;> intro h <;> (try simp only [Bool.not_eq_true', Bool.not_eq_false', decide_eq_true_eq, decide_eq_false_iff_not] at h) <;> simp (disch := omega) only [go_sem, ↓reduceIte, reduceCtorEq, pappend, plen, length_bs, hm, tkm, h]) | ((first | refine VCx.call (vm _) rfl ?_ | refine VCy.call (vm _) rfl ?_ | refine VCz.call (fun _ => vm _) rfl ?_ | refine VCk.call (fun _ _ => vm _) rfl ?_ | refine VCj.now (vm _) rfl ?_); simp (disch := omega) only [go_sem, ↓reduceIte, reduceCtorEq, pappend, plen, length_bs, hm, tkm])))
  all_goals (refine hK _ _ ?_; clear hK; (refine PW.ret ⟨_, rfl, ?_⟩; first | refine .inl ⟨?_, rfl⟩ | refine Fin.base (.id' ?_ (.bool _)) | refine Fin.base (.id' ?_ (.int _ _))); (simp_all [slot, Nat.beq] <;> first | rfl | omega | (rw [Bool.eq_iff_iff]; simp; done) | (rw [Bool.eq_iff_iff]; simp; omega)))

set_option maxHeartbeats 1600000 in
set_option maxRecDepth 100000 in
theorem dequant_ref (l : List Int) (m : List UInt8) (q : Int) (hl : l.length = 64) (hlr : lrg l) (hm : m.length = 64) (hmx : mxOk m = true) (hq : qnB q = true) (H : Heap) :
    CallOk Tryz.prog 38 [.agg (is l), .agg (bs m), .int .i64 q] H (.tup [.agg (is (dqz l m q)), .int .i64 0]) H := by
  have hall := is_cell l
  have hall2 : (bs m).all PV.cell = true := by simp [bs, PV.cell]
  have vm := fun K => may_ref m q hm hmx hq K
  have q1 := qnB_of hq
  have hz := fil_0 (dqf l m q)
  have tkm : List.take 64 (bs m) = bs m := List.take_of_length_le (by rw [length_bs]; omega)
  refine CallOk.body (F0 := [(0, .agg (is l)), (1, .agg (bs m)), (2, .int .i64 q)]) Tryz.func38 rfl Tryz.ntmps38 Tryz.results38 rfl (by kernel_rfl) rfl ?_
  (repeat refine PW.seq ?_); refine PW.rg rfl fun K hK => ?_; simp (disch := omega) only [go_sem, ↓reduceIte, reduceCtorEq, pappend, plen, hall, hall2]; refine hK _ _ ?_; clear hK K
  (repeat refine PW.seq ?_); refine PW.rg rfl fun K hK => ?_; simp (disch := omega) only [go_sem, ↓reduceIte, reduceCtorEq, pappend, plen, length_bs, hm, tkm]; refine VCx.call (vm _) rfl ?_; simp (disch := omega) only [go_sem, ↓reduceIte, reduceCtorEq, pappend, plen, length_bs, hm, tkm]; refine hK _ _ ?_; clear hK K
  (repeat refine PW.seq ?_); refine PW.cond (t := _) rfl (fun h => ?_) (fun h => ?_)
  · cases h
  refine PW.skip ?_
  (repeat refine PW.seq ?_); refine PW.rg rfl fun K hK => ?_; simp (disch := omega) only [go_sem, ↓reduceIte, reduceCtorEq, pappend, plen]; refine hK _ _ ?_; clear hK K
  (repeat refine PW.seq ?_); refine PW.rg rfl fun K hK => ?_; simp (disch := omega) only [go_sem, ↓reduceIte, reduceCtorEq, pappend, plen]; refine hK _ _ ?_; clear hK K
  (repeat refine PW.seq ?_); refine PW.block (PW.loop ?_)
  suffices h1 : ∀ k : Nat, k ≤ 64 → PL Tryz.prog _ _ [(2, .int .i64 q), (3, .ptr H.length 0 0), (4, .ptr (H.length + 1) 0 0), (6, .ptr (H.length + 2) 0 0), (8, .ptr (H.length + 3) 0 0), (9, .int .i64 (k : Int))] (H ++ [⟨47, 0, is l⟩, ⟨36, 0, bs m⟩, ⟨47, 0, is zi⟩, ⟨47, 0, is (fil (dqf l m q) k)⟩]) _ by
    exact PL.at [2, 3, 4, 6, 8, 9] (h1 0 (by omega)) rfl (by rw [hz]; rfl)
  refine cnt 64 (fun k hk ih => ?_) ?_
  · refine PL.round ?_; (repeat refine PW.seq ?_); refine PW.rg rfl fun K hK => ?_; simp (disch := omega) only [go_sem, ↓reduceIte, reduceCtorEq, pappend, plen]; refine hK _ _ ?_; clear hK K; (repeat refine PW.seq ?_); refine PW.cond (t := _) rfl (fun h => ?_) (fun h => ?_)
    rotate_left
    · cases h
    obtain ⟨b1, b2⟩ := hlr k
    refine PW.skip ?_; (repeat refine PW.seq ?_); refine PW.block ?_
    (repeat refine PW.seq ?_)
    refine PW.rgv (P := Tryz.prog) [2, 3, 4, 6, 8, 9] 28 (.bool false) ?_ ?_ ?_
    · rfl
    · simp (disch := omega) only [go_sem, ↓reduceIte, reduceCtorEq, pappend, plen, is_get, is_len, hl]; (repeat' ((first | refine VO_cond ?_ ?_ | refine VOd_cond ?_ ?_ | refine VOg_cond ?_ ?_ | refine VOh_cond ?_ ?_ | refine VOi_cond ?_ ?_ | refine And.intro ?_ ?_) <;> intro h <;> (try simp only [Bool.not_eq_true', Bool.not_eq_false', decide_eq_true_eq, decide_eq_false_iff_not] at h) <;> simp (disch := omega) only [go_sem, ↓reduceIte, reduceCtorEq, pappend, plen, is_get, is_len, hl, h]))
      all_goals (simp_all [slot, Nat.beq] <;> first | rfl | omega | (rw [Bool.eq_iff_iff]; simp; done) | (rw [Bool.eq_iff_iff]; simp; omega))
    (repeat refine PW.seq ?_); refine PW.cond (t := _) rfl (fun h => ?_) (fun h => ?_)
    · cases h
    refine PW.skip ?_
    have m8 := mx_at hmx (show k < m.length by omega)
    have m9 := byt_range m k
    have st := fun K => step_ref (byt m k) q k K ⟨m8, m9.2⟩ hq hk
    obtain ⟨d1, d2⟩ := dqf_bd (m := m) hlr q1 k
    rw [dqf] at d2
    have f1 := fil_set (dqf l m q) k
    rw [dqf] at f1
    have f2 := fil_len (dqf l m q) k
    (repeat refine PW.seq ?_); refine PW.drawi [H.length + 3] [(8, [0]), (42, [0])] [] [40] mix (by kernel_rfl) (by simp <;> omega) fun K hK => ?_
    simp (disch := omega) only [go_sem, ↓reduceIte, reduceCtorEq, pappend, plen, arith, is_get, is_len, hl, bs_get, length_bs, hm]
    refine VCj.read (fun _ _ => st _) rfl ?_
    simp (disch := omega) only [go_sem, ↓reduceIte, reduceCtorEq, pappend, plen, arith, is_get, is_len, hl, bs_get, length_bs, hm, f2, is_set, f1]
    refine hK _ _ ?_; clear hK K
    (repeat refine PW.seq ?_); refine PW.rg rfl fun K hK => ?_; simp (disch := omega) only [go_sem, ↓reduceIte, reduceCtorEq, pappend, plen]; refine hK _ _ ?_; clear hK K
    exact PL.at [2, 3, 4, 6, 8, 9] ih rfl rfl
  refine PL.round ?_; (repeat refine PW.seq ?_); refine PW.rg rfl fun K hK => ?_; simp (disch := omega) only [go_sem, ↓reduceIte, reduceCtorEq, pappend, plen]; refine hK _ _ ?_; clear hK K; (repeat refine PW.seq ?_); refine PW.cond (t := _) rfl (fun h => ?_) (fun h => ?_)
  · cases h
  refine PW.exit ?_
  have c3 := fil_len (dqf l m q) 64
  have c4 : (is (fil (dqf l m q) 64)).length = 64 := by rw [is_len, c3]
  have c5 := is_cell (fil (dqf l m q) 64)
  have c6 : List.take 64 (is (fil (dqf l m q) 64)) = is (fil (dqf l m q) 64) := List.take_of_length_le (by omega)
  have z3 : (is zi).length = 64 := by rw [is_len, zi_len]
  have z4 : List.drop 64 (is zi) = [] := List.drop_of_length_le (by omega)
  (repeat refine PW.seq ?_); refine PW.rg rfl fun K hK => ?_; simp (disch := omega) only [go_sem, ↓reduceIte, reduceCtorEq, pappend, plen, c4, c5, c6, z3, z4]; refine hK _ _ ?_; clear hK K
  rw [← dqf_fil]
  refine PW.ret ⟨.tup [.agg (is (fil (dqf l m q) 64)), .int .i64 0], by simp (disch := omega) only [go_sem, ↓reduceIte, reduceCtorEq, pappend, plen, presults, presult, List.mapM_cons, List.mapM_nil, Option.pure_def, Option.bind_eq_bind, Option.bind_some, Array.toList, c4, c6], ?_⟩
  refine Fin.base (.id (.tup (asc fun x hx => ?_)))
  simp only [List.mem_cons, List.not_mem_nil, or_false] at hx
  rcases hx with rfl | rfl
  · exact ag_scoped (is_scoped _ _)
  · exact .int _ _

end Go.Proofs.YtahomnplappbpaaGreatDoor.Sc
