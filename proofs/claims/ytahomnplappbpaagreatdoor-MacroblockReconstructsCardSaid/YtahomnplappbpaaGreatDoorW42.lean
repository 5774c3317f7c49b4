/-
  Parts of the proof, put together in one text. No condition.
-/
import Derived.Test.YtahomnplappbpaaGreatDoorW36
namespace Go.Proofs.YtahomnplappbpaaGreatDoor.Sc
set_option linter.all false
set_option linter.unusedVariables false
set_option linter.unusedSimpArgs false
open Pm Ty Go.RowKit

theorem fl_128 (n : Nat) : rgB n (fun _ => 128) = List.replicate n 128 := by
  apply List.ext_getElem
  · simp [rgB]
  intro i h1 h2
  simp [rgB, u8]
set_option maxHeartbeats 3200000 in
set_option maxRecDepth 10000 in
theorem flat_ref (H : Heap) : CallOk Tryz.prog 26 [.int .i64 16, .int .i64 16, .int .u8 128, .int .u8 128, .int .u8 128] H (.agg (fmc gry)) H := by
  have bl := blank_ref (H ++ [⟨53, 0, [PV.int .i64 0, PV.int .i64 0, PV.slice [] 0 true, PV.slice [] 0 true, PV.slice [] 0 true]⟩])
  rw [zBk_fl 256 (fun _ => 128), zBk_fl 64 (fun _ => 128)] at bl
  simp only [plc, hl1, List.append_assoc, List.cons_append, List.nil_append, Nat.add_assoc, Nat.reduceAdd] at bl
  rw [gry_c, ← fl_128, ← fl_128, ← flB_end, ← flB_end]
  obtain ⟨N1, hn1⟩ : ∃ N : Nat, N = 256 := ⟨_, rfl⟩
  obtain ⟨N2, hn2⟩ : ∃ N : Nat, N = 64 := ⟨_, rfl⟩
  rw [← hn1, ← hn2] at bl ⊢
  have fs := fun (N k : Nat) => flB_set (N := N) (f := fun _ => 128) (n := k) (by decide)
  have fl := fun N k => flB_len N (fun _ => 128) k
  refine CallOk.body (F0 := [(0, .int .i64 16), (1, .int .i64 16), (2, .int .u8 128), (3, .int .u8 128), (4, .int .u8 128)]) Tryz.func26 rfl Tryz.ntmps26 Tryz.results26 rfl (by kernel_rfl) rfl ?_
  (repeat refine PW.seq ?_); refine PW.rg rfl fun K hK => ?_; simp (maxSteps := 3000000) (disch := omega) only [go_sem, ↓reduceIte, reduceCtorEq, pappend, plen]; refine hK _ _ ?_; clear hK K
  refine PW.view (Vs.place 5) ?_
  refine PW.view (Vs.place 5) ?_
  refine PW.view (Vs.place 5) ?_
  (repeat refine PW.seq ?_); refine PW.rg rfl fun K hK => ?_; simp (maxSteps := 3000000) (disch := omega) only [go_sem, ↓reduceIte, reduceCtorEq, pappend, plen]; refine VCx.call (bl) rfl ?_; simp (maxSteps := 3000000) (disch := omega) only [go_sem, ↓reduceIte, reduceCtorEq, pappend, plen]; refine hK _ _ ?_; clear hK K
  (repeat refine PW.seq ?_); refine PW.rg rfl fun K hK => ?_; simp (maxSteps := 3000000) (disch := omega) only [go_sem, ↓reduceIte, reduceCtorEq, pappend, plen]; refine hK _ _ ?_; clear hK K
  (repeat refine PW.seq ?_); refine PW.block (PW.loop ?_)
  suffices h1 : ∀ k : Nat, k ≤ N1 → PL Tryz.prog _ _ [(2, .int .u8 128), (3, .int .u8 128), (4, .int .u8 128), (10, .ptr H.length 0 0), (11, .ptr (H.length + 4) 0 0), (12, .int .i64 (k : Int))] (H ++ [⟨53, 0, [PV.int .i64 0, PV.int .i64 0, PV.slice [] 0 true, PV.slice [] 0 true, PV.slice [] 0 true]⟩, ⟨5, 1, bs (flB N1 (fun _ => 128) k)⟩, ⟨5, 1, bs (flB N2 (fun _ => 128) 0)⟩, ⟨5, 1, bs (flB N2 (fun _ => 128) 0)⟩, ⟨53, 0, [.int .i64 16, .int .i64 16, .msl (H.length + 1) 1 0 N1 1 true, .msl (H.length + 2) 1 0 N2 1 true, .msl (H.length + 3) 1 0 N2 1 true]⟩]) _ by
    exact PL.at [2, 3, 4, 10, 11, 12] (h1 0 (by omega)) rfl rfl
  refine cnt N1 (fun k hk ih => ?_) ?_
  · have ct := lt_t hk
    refine PL.round ?_; (repeat refine PW.seq ?_); refine PW.rg rfl fun K hK => ?_; simp (maxSteps := 3000000) (disch := omega) only [go_sem, ↓reduceIte, reduceCtorEq, pappend, plen, ct]; refine hK _ _ ?_; clear hK K; (repeat refine PW.seq ?_); refine PW.cond (t := _) rfl (fun h => ?_) (fun h => ?_)
    rotate_left
    · cases h
    refine PW.skip ?_; (repeat refine PW.seq ?_); refine PW.block ?_
    (repeat refine PW.seq ?_); refine PW.rg rfl fun K hK => ?_; simp (maxSteps := 3000000) (disch := omega) only [go_sem, ↓reduceIte, reduceCtorEq, pappend, plen, length_bs, fl, fs]; refine hK _ _ ?_; clear hK K
    (repeat refine PW.seq ?_); refine PW.rg rfl fun K hK => ?_; simp (maxSteps := 3000000) (disch := omega) only [go_sem, ↓reduceIte, reduceCtorEq, pappend, plen]; refine hK _ _ ?_; clear hK K
    exact PL.at [2, 3, 4, 10, 11, 12] ih rfl rfl
  refine PL.round ?_; (repeat refine PW.seq ?_); refine PW.rg rfl fun K hK => ?_; simp (maxSteps := 3000000) (disch := omega) only [go_sem, ↓reduceIte, reduceCtorEq, pappend, plen, lt_f N1]; refine hK _ _ ?_; clear hK K; (repeat refine PW.seq ?_); refine PW.cond (t := _) rfl (fun h => ?_) (fun h => ?_)
  · cases h
  refine PW.exit ?_
  (repeat refine PW.seq ?_); refine PW.rg rfl fun K hK => ?_; simp (maxSteps := 3000000) (disch := omega) only [go_sem, ↓reduceIte, reduceCtorEq, pappend, plen]; refine hK _ _ ?_; clear hK K
  (repeat refine PW.seq ?_); refine PW.block (PW.loop ?_)
  suffices h1 : ∀ k : Nat, k ≤ N2 → PL Tryz.prog _ _ [(3, .int .u8 128), (4, .int .u8 128), (10, .ptr H.length 0 0), (11, .ptr (H.length + 4) 0 0), (13, .int .i64 (k : Int))] (H ++ [⟨53, 0, [PV.int .i64 0, PV.int .i64 0, PV.slice [] 0 true, PV.slice [] 0 true, PV.slice [] 0 true]⟩, ⟨5, 1, bs (flB N1 (fun _ => 128) N1)⟩, ⟨5, 1, bs (flB N2 (fun _ => 128) k)⟩, ⟨5, 1, bs (flB N2 (fun _ => 128) k)⟩, ⟨53, 0, [.int .i64 16, .int .i64 16, .msl (H.length + 1) 1 0 N1 1 true, .msl (H.length + 2) 1 0 N2 1 true, .msl (H.length + 3) 1 0 N2 1 true]⟩]) _ by
    exact PL.at [3, 4, 10, 11, 13] (h1 0 (by omega)) rfl rfl
  refine cnt N2 (fun k hk ih => ?_) ?_
  · have ct := lt_t hk
    refine PL.round ?_; (repeat refine PW.seq ?_); refine PW.rg rfl fun K hK => ?_; simp (maxSteps := 3000000) (disch := omega) only [go_sem, ↓reduceIte, reduceCtorEq, pappend, plen, ct]; refine hK _ _ ?_; clear hK K; (repeat refine PW.seq ?_); refine PW.cond (t := _) rfl (fun h => ?_) (fun h => ?_)
    rotate_left
    · cases h
    refine PW.skip ?_; (repeat refine PW.seq ?_); refine PW.block ?_
    (repeat refine PW.seq ?_); refine PW.drawi [H.length + 2, H.length + 3] [(37, [0]), (44, [0]), (40, [1]), (45, [1])] [] [] mix (by kernel_rfl) (by simp <;> omega) fun K hK => ?_
    simp (maxSteps := 3000000) (disch := omega) only [go_sem, ↓reduceIte, reduceCtorEq, pappend, plen, arith, length_bs, fl, fs]
    refine hK _ _ ?_; clear hK K
    (repeat refine PW.seq ?_); refine PW.rg rfl fun K hK => ?_; simp (maxSteps := 3000000) (disch := omega) only [go_sem, ↓reduceIte, reduceCtorEq, pappend, plen]; refine hK _ _ ?_; clear hK K
    exact PL.at [3, 4, 10, 11, 13] ih rfl rfl
  refine PL.round ?_; (repeat refine PW.seq ?_); refine PW.rg rfl fun K hK => ?_; simp (maxSteps := 3000000) (disch := omega) only [go_sem, ↓reduceIte, reduceCtorEq, pappend, plen, lt_f N2]; refine hK _ _ ?_; clear hK K; (repeat refine PW.seq ?_); refine PW.cond (t := _) rfl (fun h => ?_) (fun h => ?_)
  · cases h
  refine PW.exit ?_
  (repeat refine PW.seq ?_); refine PW.rg rfl fun K hK => ?_; simp (maxSteps := 3000000) (disch := omega) only [go_sem, ↓reduceIte, reduceCtorEq, pappend, plen]; refine hK _ _ ?_; clear hK K
  refine PW.ret ⟨.agg [.int .i64 16, .int .i64 16, .msl (H.length + 1) 1 0 N1 1 true, .msl (H.length + 2) 1 0 N2 1 true, .msl (H.length + 3) 1 0 N2 1 true], by simp (maxSteps := 3000000) (disch := omega) only [go_sem, ↓reduceIte, reduceCtorEq, pappend, plen, presults, presult, List.mapM_cons, List.mapM_nil, Option.pure_def, Option.bind_eq_bind, Option.bind_some, Array.toList], ?_⟩
  refine Fin.base (Fz.aggC ⟨.id (.int _ _), .id (.int _ _), Fz.mslC (e := 5) (xs := bs (flB N1 (fun _ => 128) N1)) (by omega) (apn _ _ 1) (by rw [length_bs, fl]; omega) (FzC.refl (bs_scoped _ _)), Fz.mslC (e := 5) (xs := bs (flB N2 (fun _ => 128) N2)) (by omega) (apn _ _ 2) (by rw [length_bs, fl]; omega) (FzC.refl (bs_scoped _ _)), Fz.mslC (e := 5) (xs := bs (flB N2 (fun _ => 128) N2)) (by omega) (apn _ _ 3) (by rw [length_bs, fl]; omega) (FzC.refl (bs_scoped _ _)), trivial⟩)

theorem plane_ref (w ht : Int) (y u v : List UInt8) (n : Nat) (H : Heap) (hn : n < 6) : CallOk Tryz.prog 99 [.agg (fmc ⟨w, ht, y, u, v⟩), .int .i64 (n : Int)] H (.slice (bs (cmp ⟨w, ht, y, u, v⟩ n)) (cmp ⟨w, ht, y, u, v⟩ n).length false) H := by
  refine CallOk.body (F0 := [(0, .agg [.int .i64 w, .int .i64 ht, .slice (bs y) y.length false, .slice (bs u) u.length false, .slice (bs v) v.length false]), (1, .int .i64 (n : Int))]) Tryz.func99 rfl Tryz.ntmps99 Tryz.results99 rfl (by kernel_rfl) rfl ?_
  (repeat refine PW.seq ?_); refine PW.rg rfl fun K hK => ?_; simp (maxSteps := 3000000) (disch := omega) only [go_sem, ↓reduceIte, reduceCtorEq, pappend, plen]; refine hK _ _ ?_; clear hK K
  (repeat refine PW.seq ?_); refine PW.rg rfl fun K hK => ?_; simp (maxSteps := 3000000) (disch := omega) only [go_sem, ↓reduceIte, reduceCtorEq, pappend, plen]; refine hK _ _ ?_; clear hK K
  (repeat refine PW.seq ?_); refine PW.block ?_
  (repeat refine PW.seq ?_); refine PW.rg rfl fun K hK => ?_; simp (maxSteps := 3000000) (disch := omega) only [go_sem, ↓reduceIte, reduceCtorEq, pappend, plen]; refine hK _ _ ?_; clear hK K
  (repeat refine PW.seq ?_); refine PW.cond (t := _) rfl (fun h => ?_) (fun h => ?_)
  · have e : n = 4 := by have := of_decide_eq_true h; omega
    subst e
    (repeat refine PW.seq ?_); refine PW.rg rfl fun K hK => ?_; simp (maxSteps := 3000000) (disch := omega) only [go_sem, ↓reduceIte, reduceCtorEq, pappend, plen]; refine hK _ _ ?_; clear hK K
    exact PW.ret ⟨_, rfl, Fin.base (.id (sl_scoped (bs_scoped _ _)))⟩
  have e4 : n ≠ 4 := by have := of_decide_eq_false h; omega
  (repeat refine PW.seq ?_); refine PW.rg rfl fun K hK => ?_; simp (maxSteps := 3000000) (disch := omega) only [go_sem, ↓reduceIte, reduceCtorEq, pappend, plen]; refine hK _ _ ?_; clear hK K
  (repeat refine PW.seq ?_); refine PW.cond (t := _) rfl (fun h => ?_) (fun h => ?_)
  · have e : n = 5 := by have := of_decide_eq_true h; omega
    subst e
    (repeat refine PW.seq ?_); refine PW.rg rfl fun K hK => ?_; simp (maxSteps := 3000000) (disch := omega) only [go_sem, ↓reduceIte, reduceCtorEq, pappend, plen]; refine hK _ _ ?_; clear hK K
    exact PW.ret ⟨_, rfl, Fin.base (.id (sl_scoped (bs_scoped _ _)))⟩
  have e5 : n ≠ 5 := by have := of_decide_eq_false h; omega
  have ec : cmp ⟨w, ht, y, u, v⟩ n = y := by unfold cmp; rw [if_neg e4, if_neg e5]
  rw [ec]
  refine PW.skip ?_
  (repeat refine PW.seq ?_); refine PW.rg rfl fun K hK => ?_; simp (maxSteps := 3000000) (disch := omega) only [go_sem, ↓reduceIte, reduceCtorEq, pappend, plen]; refine hK _ _ ?_; clear hK K
  exact PW.ret ⟨_, rfl, Fin.base (.id (sl_scoped (bs_scoped _ _)))⟩

theorem planeM_ref (w ht : Int) (r a b c : Nat) (n : Nat) (H : Heap) (hr : r + 2 < H.length) (hn : n < 6) : CallOk Tryz.prog 99 [.agg [.int .i64 w, .int .i64 ht, .msl r 1 0 a 1 true, .msl (r + 1) 1 0 b 1 true, .msl (r + 2) 1 0 c 1 true], .int .i64 (n : Int)] H (if n = 4 then .msl (r + 1) 1 0 b 1 true else if n = 5 then .msl (r + 2) 1 0 c 1 true else .msl r 1 0 a 1 true) H := by
  refine CallOk.body (F0 := [(0, .agg [.int .i64 w, .int .i64 ht, .msl r 1 0 a 1 true, .msl (r + 1) 1 0 b 1 true, .msl (r + 2) 1 0 c 1 true]), (1, .int .i64 (n : Int))]) Tryz.func99 rfl Tryz.ntmps99 Tryz.results99 rfl (by kernel_rfl) rfl ?_
  (repeat refine PW.seq ?_); refine PW.rg rfl fun K hK => ?_; simp (maxSteps := 3000000) (disch := omega) only [go_sem, ↓reduceIte, reduceCtorEq, pappend, plen]; refine hK _ _ ?_; clear hK K
  (repeat refine PW.seq ?_); refine PW.rg rfl fun K hK => ?_; simp (maxSteps := 3000000) (disch := omega) only [go_sem, ↓reduceIte, reduceCtorEq, pappend, plen]; refine hK _ _ ?_; clear hK K
  (repeat refine PW.seq ?_); refine PW.block ?_
  (repeat refine PW.seq ?_); refine PW.rg rfl fun K hK => ?_; simp (maxSteps := 3000000) (disch := omega) only [go_sem, ↓reduceIte, reduceCtorEq, pappend, plen]; refine hK _ _ ?_; clear hK K
  (repeat refine PW.seq ?_); refine PW.cond (t := _) rfl (fun h => ?_) (fun h => ?_)
  · have e : n = 4 := by have := of_decide_eq_true h; omega
    subst e
    (repeat refine PW.seq ?_); refine PW.rg rfl fun K hK => ?_; simp (maxSteps := 3000000) (disch := omega) only [go_sem, ↓reduceIte, reduceCtorEq, pappend, plen]; refine hK _ _ ?_; clear hK K
    exact PW.ret ⟨_, rfl, Fin.base (.id (.msl (by omega)))⟩
  have e4 : n ≠ 4 := by have := of_decide_eq_false h; omega
  rw [if_neg e4]
  (repeat refine PW.seq ?_); refine PW.rg rfl fun K hK => ?_; simp (maxSteps := 3000000) (disch := omega) only [go_sem, ↓reduceIte, reduceCtorEq, pappend, plen]; refine hK _ _ ?_; clear hK K
  (repeat refine PW.seq ?_); refine PW.cond (t := _) rfl (fun h => ?_) (fun h => ?_)
  · have e : n = 5 := by have := of_decide_eq_true h; omega
    subst e
    (repeat refine PW.seq ?_); refine PW.rg rfl fun K hK => ?_; simp (maxSteps := 3000000) (disch := omega) only [go_sem, ↓reduceIte, reduceCtorEq, pappend, plen]; refine hK _ _ ?_; clear hK K
    exact PW.ret ⟨_, rfl, Fin.base (.id (.msl (by omega)))⟩
  have e5 : n ≠ 5 := by have := of_decide_eq_false h; omega
  rw [if_neg e5]
  refine PW.skip ?_
  (repeat refine PW.seq ?_); refine PW.rg rfl fun K hK => ?_; simp (maxSteps := 3000000) (disch := omega) only [go_sem, ↓reduceIte, reduceCtorEq, pappend, plen]; refine hK _ _ ?_; clear hK K
  exact PW.ret ⟨_, rfl, Fin.base (.id (.msl (by omega)))⟩


theorem clip_ref (v : Int) (H : Heap) : CallOk Tryz.prog 102 [.int .i64 v] H (.int .u8 (clp v)) H := by
  have cl : (if (if 255 < v then 255 else v) > 0 then (if 255 < v then 255 else v) else 0) = clp v := by unfold clp; omega
  have b1 := clp_bd v
  refine CallOk.body (F0 := [(0, .int .i64 v)]) Tryz.func102 rfl Tryz.ntmps102 Tryz.results102 rfl (by kernel_rfl) rfl ?_
  (repeat refine PW.seq ?_); refine PW.rg rfl fun K hK => ?_; simp (maxSteps := 3000000) (disch := omega) only [go_sem, ↓reduceIte, reduceCtorEq, pappend, plen]; refine hK _ _ ?_; clear hK K
  (repeat refine PW.seq ?_); refine PW.rg rfl fun K hK => ?_; simp (maxSteps := 3000000) (disch := omega) only [go_sem, ↓reduceIte, reduceCtorEq, pappend, plen, cl]; refine hK _ _ ?_; clear hK K
  (refine PW.ret ⟨_, rfl, ?_⟩; first | refine .inl ⟨?_, rfl⟩ | refine Fin.base (.id' ?_ (.bool _)) | refine Fin.base (.id' ?_ (.int _ _)))
  rfl
set_option maxHeartbeats 1600000 in
theorem placeR_ref (n : Nat) (fd : Bool) (k : Nat) (hn : n < 6) (hk : k < 64) (H : Heap) : CallOk Tryz.prog 100 [.int .i64 16, .int .i64 0, .int .i64 0, .int .i64 (n : Int), .bool fd, .int .i64 (k : Int)] H (.int .i64 (bps n fd k : Int)) H := by
  have m1 : (n : Int).tmod 2 = ((n % 2 : Nat) : Int) := by rw [tmod_pos _ _ (by omega)]; omega
  have m2 : (n : Int).tdiv 2 = ((n / 2 : Nat) : Int) := by rw [tdiv_pos _ _ (by omega)]; omega
  have k1 : (k : Int).tmod 8 = ((k % 8 : Nat) : Int) := by rw [tmod_pos _ _ (by omega)]; omega
  have k2 : (k : Int).tdiv 8 = ((k / 8 : Nat) : Int) := by rw [tdiv_pos _ _ (by omega)]; omega
  have d1 : (16 : Int).tdiv 2 = 8 := rfl
  refine CallOk.body (F0 := [(0, .int .i64 16), (1, .int .i64 0), (2, .int .i64 0), (3, .int .i64 (n : Int)), (4, .bool fd), (5, .int .i64 (k : Int))]) Tryz.func100 rfl Tryz.ntmps100 Tryz.results100 rfl (by kernel_rfl) rfl ?_
  (repeat refine PW.seq ?_); refine PW.rg rfl fun K hK => ?_; simp (maxSteps := 3000000) (disch := omega) only [go_sem, ↓reduceIte, reduceCtorEq, pappend, plen]; refine hK _ _ ?_; clear hK K
  (repeat refine PW.seq ?_); refine PW.rg rfl fun K hK => ?_; simp (maxSteps := 3000000) (disch := omega) only [go_sem, ↓reduceIte, reduceCtorEq, pappend, plen]; refine hK _ _ ?_; clear hK K
  (repeat refine PW.seq ?_); refine PW.cond (t := _) rfl (fun h => ?_) (fun h => ?_)
  · have h4 : 4 ≤ n := by have := of_decide_eq_true h; omega
    (repeat refine PW.seq ?_); refine PW.rg rfl fun K hK => ?_; simp (maxSteps := 3000000) (disch := omega) only [go_sem, ↓reduceIte, reduceCtorEq, pappend, plen, m1, m2, k1, k2, d1]; refine hK _ _ ?_; clear hK K
    (refine PW.ret ⟨_, rfl, ?_⟩; first | refine .inl ⟨?_, rfl⟩ | refine Fin.base (.id' ?_ (.bool _)) | refine Fin.base (.id' ?_ (.int _ _)))
    simp only [slot, Nat.beq]
    unfold bps bfr bst; rw [if_pos h4, if_pos h4]
    congr 1; omega
  have h4 : ¬ 4 ≤ n := by have := of_decide_eq_false h; omega
  refine PW.skip ?_
  (repeat refine PW.seq ?_); refine PW.rg rfl fun K hK => ?_; simp (maxSteps := 3000000) (disch := omega) only [go_sem, ↓reduceIte, reduceCtorEq, pappend, plen, m1, m2, k1, k2, d1]; refine hK _ _ ?_; clear hK K
  (repeat refine PW.seq ?_); refine PW.rg rfl fun K hK => ?_; simp (maxSteps := 3000000) (disch := omega) only [go_sem, ↓reduceIte, reduceCtorEq, pappend, plen]; refine hK _ _ ?_; clear hK K
  cases fd
  · (repeat refine PW.seq ?_); refine PW.cond (t := _) rfl (fun h => ?_) (fun h => ?_)
    · cases h
    refine PW.skip ?_
    (repeat refine PW.seq ?_); refine PW.rg rfl fun K hK => ?_; simp (maxSteps := 3000000) (disch := omega) only [go_sem, ↓reduceIte, reduceCtorEq, pappend, plen, m1, m2, k1, k2, d1]; refine hK _ _ ?_; clear hK K
    (refine PW.ret ⟨_, rfl, ?_⟩; first | refine .inl ⟨?_, rfl⟩ | refine Fin.base (.id' ?_ (.bool _)) | refine Fin.base (.id' ?_ (.int _ _)))
    simp only [slot, Nat.beq]
    unfold bps bfr bst; rw [if_neg h4, if_neg h4]
    simp only [Bool.false_eq_true, if_false]
    congr 1; omega
  · (repeat refine PW.seq ?_); refine PW.cond (t := _) rfl (fun h => ?_) (fun h => ?_)
    rotate_left
    · cases h
    (repeat refine PW.seq ?_); refine PW.rg rfl fun K hK => ?_; simp (maxSteps := 3000000) (disch := omega) only [go_sem, ↓reduceIte, reduceCtorEq, pappend, plen, m1, m2, k1, k2, d1]; refine hK _ _ ?_; clear hK K
    (repeat refine PW.seq ?_); refine PW.rg rfl fun K hK => ?_; simp (maxSteps := 3000000) (disch := omega) only [go_sem, ↓reduceIte, reduceCtorEq, pappend, plen, m1, m2, k1, k2, d1]; refine hK _ _ ?_; clear hK K
    (refine PW.ret ⟨_, rfl, ?_⟩; first | refine .inl ⟨?_, rfl⟩ | refine Fin.base (.id' ?_ (.bool _)) | refine Fin.base (.id' ?_ (.int _ _)))
    simp only [slot, Nat.beq]
    unfold bps bfr bst; rw [if_neg h4, if_neg h4]
    simp only [if_true]
    congr 1; omega

set_option maxHeartbeats 1600000 in
set_option maxRecDepth 100000 in
theorem block_ref (f : Fm) (hf : F16 f) (n : Nat) (hn : n < 6) (fd : Bool) (H : Heap) :
    CallOk Tryz.prog 41 [.agg (fmc f), .int .i64 0, .int .i64 0, .int .i64 (n : Int), .bool fd] H (.tup [.agg (is (blk (cmp f n) n fd)), .int .i64 0]) H := by
  have hm := fun K => has_ref f 0 0 K
  rw [hf.has] at hm
  have co := fun K => plane_ref f.w f.h f.y f.u f.v n K hn
  have cl := hf.cmp hn
  have bb : bln n ≤ 256 := by unfold bln; split <;> omega
  have hz := fil_0 (fun k => byt (cmp f n) (bps n fd k))
  obtain ⟨w, ht, y, u, v⟩ := f
  have hw : w = 16 := hf.w
  have hh : ht = 16 := hf.h
  subst hw hh
  simp only at co
  obtain ⟨P, hP⟩ : ∃ P, cmp ⟨16, 16, y, u, v⟩ n = P := ⟨_, rfl⟩
  rw [hP] at co cl hz ⊢
  simp only [fmc] at hm co ⊢
  refine CallOk.body (F0 := [(0, .agg [.int .i64 16, .int .i64 16, .slice (bs y) y.length false, .slice (bs u) u.length false, .slice (bs v) v.length false]), (1, .int .i64 0), (2, .int .i64 0), (3, .int .i64 (n : Int)), (4, .bool fd)]) Tryz.func41 rfl Tryz.ntmps41 Tryz.results41 rfl (by kernel_rfl) rfl ?_
  (repeat refine PW.seq ?_); refine PW.rg rfl fun K hK => ?_; simp (maxSteps := 3000000) (disch := omega) only [go_sem, ↓reduceIte, reduceCtorEq, pappend, plen]; refine hK _ _ ?_; clear hK K
  (repeat refine PW.seq ?_)
  refine PW.rgv (P := Tryz.prog) [1, 2, 3, 4, 5, 10, 11] 26 (.bool false) ?_ ?_ ?_
  · rfl
  · simp (maxSteps := 3000000) (disch := omega) only [go_sem, ↓reduceIte, reduceCtorEq, pappend, plen]; (repeat' (first | ((first | refine VO_cond ?_ ?_ | refine VOd_cond ?_ ?_ | refine VOg_cond ?_ ?_ | refine VOh_cond ?_ ?_ | refine VOi_cond ?_ ?_ | refine And.intro ?_ ?_) <;> intro h <;> (try simp only [Bool.not_eq_true', Bool.not_eq_false', decide_eq_true_eq, decide_eq_false_iff_not] at h) <;> simp (maxSteps := 3000000) (disch := omega) only [go_sem, ↓reduceIte, reduceCtorEq, pappend, plen, h]) | ((first | refine VCx.call (hm _) rfl ?_ | refine VCy.call (hm _) rfl ?_ | refine VCz.call (fun _ => hm _) rfl ?_ | refine VCk.call (fun _ _ => hm _) rfl ?_ | refine VCj.now (hm _) rfl ?_); simp (maxSteps := 3000000) (disch := omega) only [go_sem, ↓reduceIte, reduceCtorEq, pappend, plen])))
    all_goals (simp_all [slot, Nat.beq] <;> first | rfl | omega | (rw [Bool.eq_iff_iff]; simp; done) | (rw [Bool.eq_iff_iff]; simp; omega))
  (repeat refine PW.seq ?_); refine PW.cond (t := _) rfl (fun h => ?_) (fun h => ?_)
  · cases h
  refine PW.skip ?_
  (repeat refine PW.seq ?_); refine PW.rg rfl fun K hK => ?_; simp (maxSteps := 3000000) (disch := omega) only [go_sem, ↓reduceIte, reduceCtorEq, pappend, plen]; refine hK _ _ ?_; clear hK K
  (repeat refine PW.seq ?_); refine PW.rg rfl fun K hK => ?_; simp (maxSteps := 3000000) (disch := omega) only [go_sem, ↓reduceIte, reduceCtorEq, pappend, plen]; refine hK _ _ ?_; clear hK K
  (repeat refine PW.seq ?_); refine PW.block (PW.loop ?_)
  suffices h1 : ∀ k : Nat, k ≤ 64 → PL Tryz.prog _ _ [(1, .int .i64 0), (2, .int .i64 0), (3, .int .i64 (n : Int)), (4, .bool fd), (5, .ptr H.length 0 0), (10, .ptr (H.length + 1) 0 0), (12, .ptr (H.length + 2) 0 0), (13, .int .i64 (k : Int))] (H ++ [⟨53, 0, [.int .i64 16, .int .i64 16, .slice (bs y) y.length false, .slice (bs u) u.length false, .slice (bs v) v.length false]⟩, ⟨47, 0, is zi⟩, ⟨47, 0, is (fil (fun k => byt P (bps n fd k)) k)⟩]) _ by
    exact PL.at [1, 2, 3, 4, 5, 10, 12, 13] (h1 0 (by omega)) rfl (by rw [hz]; rfl)
  refine cnt 64 (fun k hk ih => ?_) ?_
  · have po := fun L => placeR_ref n fd k hn hk L
    have bl := bps_lt (fd := fd) hn hk
    have f1 := fil_set (fun k => byt P (bps n fd k)) k
    have f2 := fil_len (fun k => byt P (bps n fd k)) k
    have br := byt_range P (bps n fd k)
    refine PL.round ?_; (repeat refine PW.seq ?_); refine PW.rg rfl fun K hK => ?_; simp (maxSteps := 3000000) (disch := omega) only [go_sem, ↓reduceIte, reduceCtorEq, pappend, plen]; refine hK _ _ ?_; clear hK K; (repeat refine PW.seq ?_); refine PW.cond (t := _) rfl (fun h => ?_) (fun h => ?_)
    rotate_left
    · cases h
    refine PW.skip ?_; (repeat refine PW.seq ?_); refine PW.block ?_
    (repeat refine PW.seq ?_); refine PW.drawi [H.length + 2] [(12, [0]), (47, [0])] [] [35, 43] mix (by kernel_rfl) (by simp <;> omega) fun K hK => ?_
    simp (maxSteps := 3000000) (disch := omega) only [go_sem, ↓reduceIte, reduceCtorEq, pappend, plen, arith]
    refine VCj.read (fun _ _ => co _) rfl ?_
    simp (maxSteps := 3000000) (disch := omega) only [go_sem, ↓reduceIte, reduceCtorEq, pappend, plen, arith]
    refine VCj.read (fun _ _ => po _) rfl ?_
    simp (maxSteps := 3000000) (disch := omega) only [go_sem, ↓reduceIte, reduceCtorEq, pappend, plen, arith, bs_get, length_bs, is_len, f2, is_set, f1]
    refine hK _ _ ?_; clear hK K
    (repeat refine PW.seq ?_); refine PW.rg rfl fun K hK => ?_; simp (maxSteps := 3000000) (disch := omega) only [go_sem, ↓reduceIte, reduceCtorEq, pappend, plen]; refine hK _ _ ?_; clear hK K
    exact PL.at [1, 2, 3, 4, 5, 10, 12, 13] ih rfl rfl
  refine PL.round ?_; (repeat refine PW.seq ?_); refine PW.rg rfl fun K hK => ?_; simp (maxSteps := 3000000) (disch := omega) only [go_sem, ↓reduceIte, reduceCtorEq, pappend, plen]; refine hK _ _ ?_; clear hK K; (repeat refine PW.seq ?_); refine PW.cond (t := _) rfl (fun h => ?_) (fun h => ?_)
  · cases h
  refine PW.exit ?_
  rw [blk_fil]
  have c3 : (blk P n fd).length = 64 := rgI_len _ _
  have c4 : (is (blk P n fd)).length = 64 := by rw [is_len, c3]
  have c5 := is_cell (blk P n fd)
  have c6 : List.take 64 (is (blk P n fd)) = is (blk P n fd) := List.take_of_length_le (by omega)
  have z3 : (is zi).length = 64 := by rw [is_len, zi_len]
  have z4 : List.drop 64 (is zi) = [] := List.drop_of_length_le (by omega)
  (repeat refine PW.seq ?_); refine PW.rg rfl fun K hK => ?_; simp (maxSteps := 3000000) (disch := omega) only [go_sem, ↓reduceIte, reduceCtorEq, pappend, plen, c4, c5, c6, z3, z4]; refine hK _ _ ?_; clear hK K
  refine PW.ret ⟨.tup [.agg (is (blk P n fd)), .int .i64 0], by simp (maxSteps := 3000000) (disch := omega) only [go_sem, ↓reduceIte, reduceCtorEq, pappend, plen, presults, presult, List.mapM_cons, List.mapM_nil, Option.pure_def, Option.bind_eq_bind, Option.bind_some, Array.toList, c4, c6], ?_⟩
  exact Fin.base (.id (e0_scoped _ _ _))

set_option maxHeartbeats 1600000 in
set_option maxRecDepth 10000 in
theorem copy_ref (w ht : Int) (y u v : List UInt8) (K0 : Heap) (hy : 1 ≤ y.length ∧ y.length ≤ 100000) (hu : 1 ≤ u.length ∧ u.length ≤ 100000) (hv : 1 ≤ v.length ∧ v.length ≤ 100000) :
    CallOk Tryz.prog 101 [.agg (fmc ⟨w, ht, y, u, v⟩)] (K0 ++ [plc, plc, plc]) (.agg [.int .i64 w, .int .i64 ht, .msl K0.length 1 0 y.length 1 true, .msl (K0.length + 1) 1 0 u.length 1 true, .msl (K0.length + 2) 1 0 v.length 1 true]) (K0 ++ [cpB y, cpB u, cpB v]) := by
  refine CallOk.body (F0 := [(0, .agg [.int .i64 w, .int .i64 ht, .slice (bs y) y.length false, .slice (bs u) u.length false, .slice (bs v) v.length false])]) Tryz.func101 rfl Tryz.ntmps101 Tryz.results101 rfl (by kernel_rfl) rfl ?_
  (repeat refine PW.seq ?_); refine PW.rg rfl fun K hK => ?_; simp (maxSteps := 3000000) (disch := omega) only [go_sem, ↓reduceIte, reduceCtorEq, pappend, plen]; refine hK _ _ ?_; clear hK K
  (repeat refine PW.seq ?_); refine PW.drawi [K0.length, K0.length + 1, K0.length + 2, K0.length + 3] [(1, [3]), (4, [3]), (8, [3]), (12, [3]), (15, [3]), (16, [3]), (17, [3]), (6, [0]), (10, [1]), (14, [2])] [(6, 0), (10, 1), (14, 2)] [] mix (by kernel_rfl) (by simp <;> omega) fun K hK => ?_
  simp (maxSteps := 3000000) (disch := omega) only [go_sem, ↓reduceIte, reduceCtorEq, pappend, plen, arith, plc, length_bs]
  refine hK _ _ ?_; clear hK K
  (repeat refine PW.seq ?_); refine PW.rg rfl fun K hK => ?_; simp (maxSteps := 3000000) (disch := omega) only [go_sem, ↓reduceIte, reduceCtorEq, pappend, plen]; refine hK _ _ ?_; clear hK K
  refine PW.ret ⟨.agg [.int .i64 w, .int .i64 ht, .msl K0.length 1 0 y.length 1 true, .msl (K0.length + 1) 1 0 u.length 1 true, .msl (K0.length + 2) 1 0 v.length 1 true], by simp (maxSteps := 3000000) (disch := omega) only [go_sem, ↓reduceIte, reduceCtorEq, pappend, plen, presults, presult, List.mapM_cons, List.mapM_nil, Option.pure_def, Option.bind_eq_bind, Option.bind_some, Array.toList], ?_⟩
  refine Fin.cut (A := K0 ++ [cpB y, cpB u, cpB v]) (List.append_assoc _ [_, _, _] [_, _]).symm (by simp) (hscP (by simp) fun b hb x hx => ?_) (.id (ag_scoped fun x hx => ?_))
  · simp only [List.mem_cons, List.not_mem_nil, or_false] at hb
    rcases hb with rfl | rfl | rfl <;> exact bs_scoped _ _ x hx
  · simp only [List.mem_cons, List.not_mem_nil, or_false] at hx
    rcases hx with rfl | rfl | rfl | rfl | rfl
    · exact .int _ _
    · exact .int _ _
    · exact .msl (by simp only [List.length_append, List.length_cons, List.length_nil]; omega)
    · exact .msl (by simp only [List.length_append, List.length_cons, List.length_nil]; omega)
    · exact .msl (by simp only [List.length_append, List.length_cons, List.length_nil]; omega)

set_option maxHeartbeats 3200000 in
set_option maxRecDepth 100000 in
theorem setBlock_ref (f : Fm) (hf : F16 f) (n : Nat) (hn : n < 6) (fd : Bool) (x : List Int) (hx : x.length = 64) (H : Heap) :
    CallOk Tryz.prog 42 [.agg (fmc f), .int .i64 0, .int .i64 0, .int .i64 (n : Int), .bool fd, .agg (is x)] H (.tup [.agg (fmc (stc' f n (setb (cmp f n) n fd x))), .int .i64 0]) H := by
  have hm := fun K => has_ref f 0 0 K
  rw [hf.has] at hm
  have cl := hf.cmp hn
  have bb : bln n ≤ 256 := by unfold bln; split <;> omega
  have hsl := setb_len (fd := fd) (x := x) hn cl
  obtain ⟨w, ht, y, u, v⟩ := f
  obtain ⟨hw, hh, l1, l2, l3⟩ := hf
  simp only at hw hh l1 l2 l3
  subst hw hh
  have hall := is_cell x
  have fc := copy_ref 16 16 y u v (H ++ [⟨53, 0, fmc ⟨16, 16, y, u, v⟩⟩, ⟨47, 0, is x⟩, ⟨53, 0, [.int .i64 0, .int .i64 0, .slice [] 0 true, .slice [] 0 true, .slice [] 0 true]⟩]) (by omega) (by omega) (by omega)
  simp only [fmc, plc, cpB, l1, l2, l3, hl3, List.append_assoc, List.cons_append, List.nil_append, Nat.add_assoc, Nat.reduceAdd] at hm fc ⊢
  refine CallOk.body (F0 := [(0, .agg [.int .i64 16, .int .i64 16, .slice (bs y) 256 false, .slice (bs u) 64 false, .slice (bs v) 64 false]), (1, .int .i64 0), (2, .int .i64 0), (3, .int .i64 (n : Int)), (4, .bool fd), (5, .agg (is x))]) Tryz.func42 rfl Tryz.ntmps42 Tryz.results42 rfl (by kernel_rfl) rfl ?_
  (repeat refine PW.seq ?_); refine PW.rg rfl fun K hK => ?_; simp (maxSteps := 3000000) (disch := omega) only [go_sem, ↓reduceIte, reduceCtorEq, pappend, plen, hall]; refine hK _ _ ?_; clear hK K
  (repeat refine PW.seq ?_)
  refine PW.rgv (P := Tryz.prog) [1, 2, 3, 4, 6, 11, 12, 13] 27 (.bool false) ?_ ?_ ?_
  · rfl
  · simp (maxSteps := 3000000) (disch := omega) only [go_sem, ↓reduceIte, reduceCtorEq, pappend, plen]; (repeat' (first | ((first | refine VO_cond ?_ ?_ | refine VOd_cond ?_ ?_ | refine VOg_cond ?_ ?_ | refine VOh_cond ?_ ?_ | refine VOi_cond ?_ ?_ | refine And.intro ?_ ?_) <;> intro h <;> (try simp only [Bool.not_eq_true', Bool.not_eq_false', decide_eq_true_eq, decide_eq_false_iff_not] at h) <;> simp (maxSteps := 3000000) (disch := omega) only [go_sem, ↓reduceIte, reduceCtorEq, pappend, plen, h]) | ((first | refine VCx.call (hm _) rfl ?_ | refine VCy.call (hm _) rfl ?_ | refine VCz.call (fun _ => hm _) rfl ?_ | refine VCk.call (fun _ _ => hm _) rfl ?_ | refine VCj.now (hm _) rfl ?_); simp (maxSteps := 3000000) (disch := omega) only [go_sem, ↓reduceIte, reduceCtorEq, pappend, plen])))
    all_goals (simp_all [slot, Nat.beq] <;> first | rfl | omega | (rw [Bool.eq_iff_iff]; simp; done) | (rw [Bool.eq_iff_iff]; simp; omega))
  (repeat refine PW.seq ?_); refine PW.cond (t := _) rfl (fun h => ?_) (fun h => ?_)
  · cases h
  refine PW.skip ?_
  refine PW.view (Vs.place 5) ?_
  refine PW.view (Vs.place 5) ?_
  refine PW.view (Vs.place 5) ?_
  (repeat refine PW.seq ?_); refine PW.rg rfl fun K hK => ?_; simp (maxSteps := 3000000) (disch := omega) only [go_sem, ↓reduceIte, reduceCtorEq, pappend, plen]; refine VCx.call (fc) rfl ?_; simp (maxSteps := 3000000) (disch := omega) only [go_sem, ↓reduceIte, reduceCtorEq, pappend, plen]; refine hK _ _ ?_; clear hK K
  (repeat refine PW.seq ?_); refine PW.rg rfl fun K hK => ?_; simp (maxSteps := 3000000) (disch := omega) only [go_sem, ↓reduceIte, reduceCtorEq, pappend, plen]; refine hK _ _ ?_; clear hK K
  (repeat refine PW.seq ?_); refine PW.block (PW.loop ?_)
  have co := fun L hL => planeM_ref 16 16 (H.length + 3) 256 64 64 n L hL hn
  simp only [Nat.add_assoc, Nat.reduceAdd] at co
  by_cases h4 : n = 4
  · subst h4
    have cu : cmp ⟨16, 16, y, u, v⟩ 4 = u := rfl
    rw [cu] at hsl cl
    rw [cu, stc_4]
    simp only [if_pos, hsl, l1, l2, l3] at co ⊢
    have sz := sst_setb (fd := fd) (x := x) hn (show u.length = bln 4 by rw [cl])
    suffices h1 : ∀ k : Nat, k ≤ 64 → PL Tryz.prog _ _ [(1, .int .i64 0), (2, .int .i64 0), (3, .int .i64 ((4 : Nat) : Int)), (4, .bool fd), (6, .ptr H.length 0 0), (11, .ptr (H.length + 1) 0 0), (12, .ptr (H.length + 2) 0 0), (14, .int .i64 (k : Int))] (H ++ [⟨53, 0, [.int .i64 16, .int .i64 16, .msl (H.length + 3) 1 0 256 1 true, .msl (H.length + 4) 1 0 64 1 true, .msl (H.length + 5) 1 0 64 1 true]⟩, ⟨47, 0, is x⟩, ⟨53, 0, [.int .i64 0, .int .i64 0, .slice [] 0 true, .slice [] 0 true, .slice [] 0 true]⟩, ⟨5, 1, bs y⟩, ⟨5, 1, bs (sst u 4 fd x k)⟩, ⟨5, 1, bs v⟩]) _ by
      exact PL.at [1, 2, 3, 4, 6, 11, 12, 14] (h1 0 (by omega)) rfl rfl
    refine cnt 64 (fun k hk ih => ?_) ?_
    · have b1 := clp_bd (intAt x k)
      have sl := sst_len u 4 fd x k
      have bl := bps_lt (fd := fd) hn hk
      have sv : (bs (sst u 4 fd x k)).set (bps 4 fd k) (.int .u8 (clp (intAt x k))) = bs (sst u 4 fd x (k + 1)) := by
        conv => lhs; rw [← u8_val b1]
        rw [bs_set]; rfl
      have po := fun L => placeR_ref 4 fd k hn hk L
      have cp := fun L => clip_ref (intAt x k) L
      refine PL.round ?_; (repeat refine PW.seq ?_); refine PW.rg rfl fun K hK => ?_; simp (maxSteps := 3000000) (disch := omega) only [go_sem, ↓reduceIte, reduceCtorEq, pappend, plen]; refine hK _ _ ?_; clear hK K; (repeat refine PW.seq ?_); refine PW.cond (t := _) rfl (fun h => ?_) (fun h => ?_)
      rotate_left
      · cases h
      refine PW.skip ?_; (repeat refine PW.seq ?_); refine PW.block ?_
      (repeat refine PW.seq ?_); refine PW.drawi [H.length + 4] [(37, [0]), (50, [0])] [] [37, 45, 49] mix (by kernel_rfl) (by simp <;> omega) fun K hK => ?_
      simp (maxSteps := 3000000) (disch := omega) only [go_sem, ↓reduceIte, reduceCtorEq, pappend, plen, arith, is_get, is_len, hx]
      refine VCj.read (fun L hL => co L (by have := hL.len; simp at this; omega)) rfl ?_
      simp (maxSteps := 3000000) (disch := omega) only [go_sem, ↓reduceIte, reduceCtorEq, pappend, plen]
      refine VCj.read (fun _ _ => po _) rfl ?_
      simp (maxSteps := 3000000) (disch := omega) only [go_sem, ↓reduceIte, reduceCtorEq, pappend, plen, arith, is_get, is_len, hx]
      refine VCj.read (fun _ _ => cp _) rfl ?_
      simp (maxSteps := 3000000) (disch := omega) only [go_sem, ↓reduceIte, reduceCtorEq, pappend, plen, arith, length_bs, sl, l2, sv]
      refine hK _ _ ?_; clear hK K
      (repeat refine PW.seq ?_); refine PW.rg rfl fun K hK => ?_; simp (maxSteps := 3000000) (disch := omega) only [go_sem, ↓reduceIte, reduceCtorEq, pappend, plen]; refine hK _ _ ?_; clear hK K
      exact PL.at [1, 2, 3, 4, 6, 11, 12, 14] ih rfl rfl
    refine PL.round ?_; (repeat refine PW.seq ?_); refine PW.rg rfl fun K hK => ?_; simp (maxSteps := 3000000) (disch := omega) only [go_sem, ↓reduceIte, reduceCtorEq, pappend, plen]; refine hK _ _ ?_; clear hK K; (repeat refine PW.seq ?_); refine PW.cond (t := _) rfl (fun h => ?_) (fun h => ?_)
    · cases h
    refine PW.exit ?_
    rw [sz]
    have hs2 := setb_len (fd := fd) (x := x) hn (show u.length = bln 4 by rw [cl])
    (repeat refine PW.seq ?_); refine PW.rg rfl fun K hK => ?_; simp (maxSteps := 3000000) (disch := omega) only [go_sem, ↓reduceIte, reduceCtorEq, pappend, plen]; refine hK _ _ ?_; clear hK K
    refine PW.ret ⟨.tup [.agg [.int .i64 16, .int .i64 16, .msl (H.length + 3) 1 0 256 1 true, .msl (H.length + 4) 1 0 64 1 true, .msl (H.length + 5) 1 0 64 1 true], .int .i64 0], by simp (maxSteps := 3000000) (disch := omega) only [go_sem, ↓reduceIte, reduceCtorEq, pappend, plen, presults, presult, List.mapM_cons, List.mapM_nil, Option.pure_def, Option.bind_eq_bind, Option.bind_some, Array.toList], ?_⟩
    refine Fin.base (Fz.tupC ⟨Fz.aggC ⟨.id (.int _ _), .id (.int _ _), Fz.mslC (e := 5) (xs := (bs y)) (by omega) (apn _ _ 3) (by rw [length_bs]; omega) (FzC.refl (bs_scoped _ _)), Fz.mslC (e := 5) (xs := (bs (setb u 4 fd x))) (by omega) (apn _ _ 4) (by rw [length_bs]; omega) (FzC.refl (bs_scoped _ _)), Fz.mslC (e := 5) (xs := (bs v)) (by omega) (apn _ _ 5) (by rw [length_bs]; omega) (FzC.refl (bs_scoped _ _)), trivial⟩, .id (.int _ _), trivial⟩)
  by_cases h5 : n = 5
  · subst h5
    have cu : cmp ⟨16, 16, y, u, v⟩ 5 = v := rfl
    rw [cu] at hsl cl
    rw [cu, stc_5]
    simp only [if_neg h4, if_pos, hsl, l1, l2, l3] at co ⊢
    have sz := sst_setb (fd := fd) (x := x) hn (show v.length = bln 5 by rw [cl])
    suffices h1 : ∀ k : Nat, k ≤ 64 → PL Tryz.prog _ _ [(1, .int .i64 0), (2, .int .i64 0), (3, .int .i64 ((5 : Nat) : Int)), (4, .bool fd), (6, .ptr H.length 0 0), (11, .ptr (H.length + 1) 0 0), (12, .ptr (H.length + 2) 0 0), (14, .int .i64 (k : Int))] (H ++ [⟨53, 0, [.int .i64 16, .int .i64 16, .msl (H.length + 3) 1 0 256 1 true, .msl (H.length + 4) 1 0 64 1 true, .msl (H.length + 5) 1 0 64 1 true]⟩, ⟨47, 0, is x⟩, ⟨53, 0, [.int .i64 0, .int .i64 0, .slice [] 0 true, .slice [] 0 true, .slice [] 0 true]⟩, ⟨5, 1, bs y⟩, ⟨5, 1, bs u⟩, ⟨5, 1, bs (sst v 5 fd x k)⟩]) _ by
      exact PL.at [1, 2, 3, 4, 6, 11, 12, 14] (h1 0 (by omega)) rfl rfl
    refine cnt 64 (fun k hk ih => ?_) ?_
    · have b1 := clp_bd (intAt x k)
      have sl := sst_len v 5 fd x k
      have bl := bps_lt (fd := fd) hn hk
      have sv : (bs (sst v 5 fd x k)).set (bps 5 fd k) (.int .u8 (clp (intAt x k))) = bs (sst v 5 fd x (k + 1)) := by
        conv => lhs; rw [← u8_val b1]
        rw [bs_set]; rfl
      have po := fun L => placeR_ref 5 fd k hn hk L
      have cp := fun L => clip_ref (intAt x k) L
      refine PL.round ?_; (repeat refine PW.seq ?_); refine PW.rg rfl fun K hK => ?_; simp (maxSteps := 3000000) (disch := omega) only [go_sem, ↓reduceIte, reduceCtorEq, pappend, plen]; refine hK _ _ ?_; clear hK K; (repeat refine PW.seq ?_); refine PW.cond (t := _) rfl (fun h => ?_) (fun h => ?_)
      rotate_left
      · cases h
      refine PW.skip ?_; (repeat refine PW.seq ?_); refine PW.block ?_
      (repeat refine PW.seq ?_); refine PW.drawi [H.length + 5] [(37, [0]), (50, [0])] [] [37, 45, 49] mix (by kernel_rfl) (by simp <;> omega) fun K hK => ?_
      simp (maxSteps := 3000000) (disch := omega) only [go_sem, ↓reduceIte, reduceCtorEq, pappend, plen, arith, is_get, is_len, hx]
      refine VCj.read (fun L hL => co L (by have := hL.len; simp at this; omega)) rfl ?_
      simp (maxSteps := 3000000) (disch := omega) only [go_sem, ↓reduceIte, reduceCtorEq, pappend, plen]
      refine VCj.read (fun _ _ => po _) rfl ?_
      simp (maxSteps := 3000000) (disch := omega) only [go_sem, ↓reduceIte, reduceCtorEq, pappend, plen, arith, is_get, is_len, hx]
      refine VCj.read (fun _ _ => cp _) rfl ?_
      simp (maxSteps := 3000000) (disch := omega) only [go_sem, ↓reduceIte, reduceCtorEq, pappend, plen, arith, length_bs, sl, l3, sv]
      refine hK _ _ ?_; clear hK K
      (repeat refine PW.seq ?_); refine PW.rg rfl fun K hK => ?_; simp (maxSteps := 3000000) (disch := omega) only [go_sem, ↓reduceIte, reduceCtorEq, pappend, plen]; refine hK _ _ ?_; clear hK K
      exact PL.at [1, 2, 3, 4, 6, 11, 12, 14] ih rfl rfl
    refine PL.round ?_; (repeat refine PW.seq ?_); refine PW.rg rfl fun K hK => ?_; simp (maxSteps := 3000000) (disch := omega) only [go_sem, ↓reduceIte, reduceCtorEq, pappend, plen]; refine hK _ _ ?_; clear hK K; (repeat refine PW.seq ?_); refine PW.cond (t := _) rfl (fun h => ?_) (fun h => ?_)
    · cases h
    refine PW.exit ?_
    rw [sz]
    have hs2 := setb_len (fd := fd) (x := x) hn (show v.length = bln 5 by rw [cl])
    (repeat refine PW.seq ?_); refine PW.rg rfl fun K hK => ?_; simp (maxSteps := 3000000) (disch := omega) only [go_sem, ↓reduceIte, reduceCtorEq, pappend, plen]; refine hK _ _ ?_; clear hK K
    refine PW.ret ⟨.tup [.agg [.int .i64 16, .int .i64 16, .msl (H.length + 3) 1 0 256 1 true, .msl (H.length + 4) 1 0 64 1 true, .msl (H.length + 5) 1 0 64 1 true], .int .i64 0], by simp (maxSteps := 3000000) (disch := omega) only [go_sem, ↓reduceIte, reduceCtorEq, pappend, plen, presults, presult, List.mapM_cons, List.mapM_nil, Option.pure_def, Option.bind_eq_bind, Option.bind_some, Array.toList], ?_⟩
    refine Fin.base (Fz.tupC ⟨Fz.aggC ⟨.id (.int _ _), .id (.int _ _), Fz.mslC (e := 5) (xs := (bs y)) (by omega) (apn _ _ 3) (by rw [length_bs]; omega) (FzC.refl (bs_scoped _ _)), Fz.mslC (e := 5) (xs := (bs u)) (by omega) (apn _ _ 4) (by rw [length_bs]; omega) (FzC.refl (bs_scoped _ _)), Fz.mslC (e := 5) (xs := (bs (setb v 5 fd x))) (by omega) (apn _ _ 5) (by rw [length_bs]; omega) (FzC.refl (bs_scoped _ _)), trivial⟩, .id (.int _ _), trivial⟩)
  have cu : cmp ⟨16, 16, y, u, v⟩ n = y := cmp_y _ _ _ _ _ h4 h5
  rw [cu] at hsl cl
  rw [cu, stc_y _ _ _ _ _ _ h4 h5]
  simp only [if_neg h4, if_neg h5, hsl, l1, l2, l3] at co ⊢
  have sz := sst_setb (fd := fd) (x := x) hn (show y.length = bln n by rw [cl])
  suffices h1 : ∀ k : Nat, k ≤ 64 → PL Tryz.prog _ _ [(1, .int .i64 0), (2, .int .i64 0), (3, .int .i64 (n : Int)), (4, .bool fd), (6, .ptr H.length 0 0), (11, .ptr (H.length + 1) 0 0), (12, .ptr (H.length + 2) 0 0), (14, .int .i64 (k : Int))] (H ++ [⟨53, 0, [.int .i64 16, .int .i64 16, .msl (H.length + 3) 1 0 256 1 true, .msl (H.length + 4) 1 0 64 1 true, .msl (H.length + 5) 1 0 64 1 true]⟩, ⟨47, 0, is x⟩, ⟨53, 0, [.int .i64 0, .int .i64 0, .slice [] 0 true, .slice [] 0 true, .slice [] 0 true]⟩, ⟨5, 1, bs (sst y n fd x k)⟩, ⟨5, 1, bs u⟩, ⟨5, 1, bs v⟩]) _ by
    exact PL.at [1, 2, 3, 4, 6, 11, 12, 14] (h1 0 (by omega)) rfl rfl
  refine cnt 64 (fun k hk ih => ?_) ?_
  · have b1 := clp_bd (intAt x k)
    have sl := sst_len y n fd x k
    have bl := bps_lt (fd := fd) hn hk
    have sv : (bs (sst y n fd x k)).set (bps n fd k) (.int .u8 (clp (intAt x k))) = bs (sst y n fd x (k + 1)) := by
      conv => lhs; rw [← u8_val b1]
      rw [bs_set]; rfl
    have po := fun L => placeR_ref n fd k hn hk L
    have cp := fun L => clip_ref (intAt x k) L
    refine PL.round ?_; (repeat refine PW.seq ?_); refine PW.rg rfl fun K hK => ?_; simp (maxSteps := 3000000) (disch := omega) only [go_sem, ↓reduceIte, reduceCtorEq, pappend, plen]; refine hK _ _ ?_; clear hK K; (repeat refine PW.seq ?_); refine PW.cond (t := _) rfl (fun h => ?_) (fun h => ?_)
    rotate_left
    · cases h
    refine PW.skip ?_; (repeat refine PW.seq ?_); refine PW.block ?_
    (repeat refine PW.seq ?_); refine PW.drawi [H.length + 3] [(37, [0]), (50, [0])] [] [37, 45, 49] mix (by kernel_rfl) (by simp <;> omega) fun K hK => ?_
    simp (maxSteps := 3000000) (disch := omega) only [go_sem, ↓reduceIte, reduceCtorEq, pappend, plen, arith, is_get, is_len, hx]
    refine VCj.read (fun L hL => co L (by have := hL.len; simp at this; omega)) rfl ?_
    simp (maxSteps := 3000000) (disch := omega) only [go_sem, ↓reduceIte, reduceCtorEq, pappend, plen]
    refine VCj.read (fun _ _ => po _) rfl ?_
    simp (maxSteps := 3000000) (disch := omega) only [go_sem, ↓reduceIte, reduceCtorEq, pappend, plen, arith, is_get, is_len, hx]
    refine VCj.read (fun _ _ => cp _) rfl ?_
    simp (maxSteps := 3000000) (disch := omega) only [go_sem, ↓reduceIte, reduceCtorEq, pappend, plen, arith, length_bs, sl, l1, sv]
    refine hK _ _ ?_; clear hK K
    (repeat refine PW.seq ?_); refine PW.rg rfl fun K hK => ?_; simp (maxSteps := 3000000) (disch := omega) only [go_sem, ↓reduceIte, reduceCtorEq, pappend, plen]; refine hK _ _ ?_; clear hK K
    exact PL.at [1, 2, 3, 4, 6, 11, 12, 14] ih rfl rfl
  refine PL.round ?_; (repeat refine PW.seq ?_); refine PW.rg rfl fun K hK => ?_; simp (maxSteps := 3000000) (disch := omega) only [go_sem, ↓reduceIte, reduceCtorEq, pappend, plen]; refine hK _ _ ?_; clear hK K; (repeat refine PW.seq ?_); refine PW.cond (t := _) rfl (fun h => ?_) (fun h => ?_)
  · cases h
  refine PW.exit ?_
  rw [sz]
  have hs2 := setb_len (fd := fd) (x := x) hn (show y.length = bln n by rw [cl])
  (repeat refine PW.seq ?_); refine PW.rg rfl fun K hK => ?_; simp (maxSteps := 3000000) (disch := omega) only [go_sem, ↓reduceIte, reduceCtorEq, pappend, plen]; refine hK _ _ ?_; clear hK K
  refine PW.ret ⟨.tup [.agg [.int .i64 16, .int .i64 16, .msl (H.length + 3) 1 0 256 1 true, .msl (H.length + 4) 1 0 64 1 true, .msl (H.length + 5) 1 0 64 1 true], .int .i64 0], by simp (maxSteps := 3000000) (disch := omega) only [go_sem, ↓reduceIte, reduceCtorEq, pappend, plen, presults, presult, List.mapM_cons, List.mapM_nil, Option.pure_def, Option.bind_eq_bind, Option.bind_some, Array.toList], ?_⟩
  refine Fin.base (Fz.tupC ⟨Fz.aggC ⟨.id (.int _ _), .id (.int _ _), Fz.mslC (e := 5) (xs := (bs (setb y n fd x))) (by omega) (apn _ _ 3) (by rw [length_bs]; omega) (FzC.refl (bs_scoped _ _)), Fz.mslC (e := 5) (xs := (bs u)) (by omega) (apn _ _ 4) (by rw [length_bs]; omega) (FzC.refl (bs_scoped _ _)), Fz.mslC (e := 5) (xs := (bs v)) (by omega) (apn _ _ 5) (by rw [length_bs]; omega) (FzC.refl (bs_scoped _ _)), trivial⟩, .id (.int _ _), trivial⟩)

end Go.Proofs.YtahomnplappbpaaGreatDoor.Sc
