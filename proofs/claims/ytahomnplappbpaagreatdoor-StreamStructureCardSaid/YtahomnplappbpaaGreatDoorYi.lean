/-
  The law StreamStructure: the contract.
-/
import Derived.Test.YtahomnplappbpaaGreatDoorYh
namespace Go.Proofs.YtahomnplappbpaaGreatDoor.Sc
set_option linter.all false
set_option linter.unusedVariables false
set_option linter.unusedSimpArgs false
open Pm Ty Go.RowKit

def wkf (L : List It) (fl : Bool) (w : Wk) : List PV := .slice (itL L) L.length fl :: .bool w.hd :: (sqc w.sq ++ [.int .i64 w.old, .int .i64 w.new, .bool w.wt, .int .i64 w.op, .int .i64 w.no, .int .i64 w.sh, .slice (w.out.flatMap enR) w.out.length false, .bool w.sk])
def zwk : List PV := .slice [] 0 true :: .bool false :: (sqc sq0 ++ [.int .i64 0, .int .i64 0, .bool false, .int .i64 0, .int .i64 0, .int .i64 0, .slice [] 0 true, .bool false])
theorem wkN_k {L : List It} (hL : ∀ x ∈ L, SqOk x.s) : ∀ (r : List It) (k : Nat) (w : Wk), L.drop k = r → WkOk w k → OpR L w.op → k ≤ L.length → WkOk (wkN L w k r) L.length ∧ OpR L (wkN L w k r).op
  | [], k, w, hr, hw, hop, hk => ⟨hw.mono hk, hop⟩
  | x :: r, k, w, hr, hw, hop, hk => by
    obtain ⟨hkl, hx, hr2⟩ := nth_drop hr
    have e : wkN L w k (x :: r) = wkN L (w.step L k x) ((k + 1 : Nat) : Int) r := rfl
    rw [e]
    exact wkN_k hL r (k + 1) _ hr2 (wstep_k hw _ x (by rw [← hx]; exact hL _ (List.getElem_mem _))) (wstep_op L w k hkl x hop) (by omega)
theorem wk0_k : WkOk wk0 0 := ⟨⟨by decide, by decide, by decide, by decide, by decide, by decide, rfl, rfl⟩, by simp [wk0], by simp [wk0], by simp [wk0], by simp [wk0], by simp [wk0]⟩
set_option maxHeartbeats 4000000 in
set_option maxRecDepth 100000 in
theorem walked_ok (L : List It) (fl : Bool) (hL : ∀ x ∈ L, SqOk x.s) (hn : L.length ≤ 800000) (H : Heap) : CallOk Tryz.prog 28 [.slice (itL L) L.length fl] H (.agg (wkf L fl (walked L))) H := by
  refine CallOk.body (F0 := [(0, .slice (itL L) L.length fl)]) Tryz.func28 rfl Tryz.ntmps28 Tryz.results28 rfl (by kernel_rfl) rfl ?_
  (repeat refine PW.seq ?_); refine PW.rg rfl fun K hK => ?_; simp (maxSteps := 3000000) (disch := omega) only [go_sem, ↓reduceIte, reduceCtorEq, pappend, plen]; refine hK _ _ ?_; clear hK K
  (repeat refine PW.seq ?_); refine PW.rg rfl fun K hK => ?_; simp (maxSteps := 3000000) (disch := omega) only [go_sem, ↓reduceIte, reduceCtorEq, pappend, plen]; refine hK _ _ ?_; clear hK K
  refine PW.view (Vs.ghostH (id := H.length + 1) (j := 143) 30 6 (hp1 _ _ _ _) rfl) ?_
  refine PW.at [0, 2, 3] (?_ : PW _ _ _ [(0, .slice (itL L) L.length fl), (2, .ptr H.length 0 0), (3, .ptr (H.length + 1) 0 0)] (H ++ [⟨95, 0, zwk⟩, wkB (H.length + 2) L fl wk0, woB []]) _) rfl (by
    rw [set_in, List.append_assoc]
    simp only [List.length_append, List.length_cons, List.length_nil, Nat.zero_add]
    rfl)
  obtain ⟨B, hB⟩ : ∃ B : Heap, B = H ++ [⟨95, 0, zwk⟩, wkB (H.length + 2) L fl wk0, woB []] := ⟨_, rfl⟩
  have hBl : B.length = H.length + 3 := by rw [hB]; simp
  have hBg : ∀ k : Nat, B[H.length + k]? = ([⟨95, 0, zwk⟩, wkB (H.length + 2) L fl wk0, woB []] : Heap)[k]? := fun k => by rw [hB, List.getElem?_append_right (by omega), Nat.add_sub_cancel_left]
  have hW0 : WkH B (H.length + 1) (H.length + 2) L fl wk0 := ⟨hBg 1, hBg 2, by omega⟩
  rw [← hB, ← wR_self hW0]
  have hH := fun (v : Wk) => wR_h B (H.length + 1) (H.length + 2) L fl v (by omega) (by omega) (by omega)
  have hne : H.length + 1 ≠ H.length + 2 := by omega
  have ws := fun (v : Wk) (hv : WkOk v 900000) (ho : OpR L v.op) (k : Nat) (hk : k < L.length) => wstep_ok L fl hL v k hk _ _ _ (hH v) hv ho
  have wd := fun (v : Wk) (hv : SqL v.sq) => wdrop_ok L fl v _ _ _ (hH v) hv
  have wr := fun (v : Wk) (hv : WkOk v 1000000) => wreset_ok L fl v _ _ _ (hH v) hv
  simp only [wR_wR _ _ _ _ _ _ _ hne] at ws wd wr
  (repeat refine PW.seq ?_); refine PW.rg rfl fun K hK => ?_; simp (maxSteps := 3000000) (disch := omega) only [go_sem, ↓reduceIte, reduceCtorEq, pappend, plen]; refine hK _ _ ?_; clear hK K
  (repeat refine PW.seq ?_); refine PW.block (PW.loop ?_)
  suffices hloop : ∀ (r : List It) (k : Nat) (w : Wk), L.drop k = r → WkOk w k → OpR L w.op → k ≤ L.length → wkN L w k r = wkN L wk0 0 L →
      PL Tryz.prog _ _ [(0, .slice (itL L) L.length fl), (2, .ptr H.length 0 0), (3, .ptr (H.length + 1) 0 0), (4, .int .i64 (k : Int))] (wR B (H.length + 1) (H.length + 2) L fl w) _ by
    exact PL.at [0, 2, 3, 4] (hloop L 0 wk0 rfl wk0_k (.inl rfl) (Nat.zero_le _) rfl) rfl rfl
  intro r
  induction r with
  | nil =>
    intro k w hr hw hop hk he
    have hkl : k = L.length := by
      have := List.drop_eq_nil_iff.1 hr
      omega
    subst hkl
    refine PL.round ?_; (repeat refine PW.seq ?_); refine PW.rg rfl fun K hK => ?_; simp (maxSteps := 3000000) (disch := omega) only [go_sem, ↓reduceIte, reduceCtorEq, pappend, plen]; refine hK _ _ ?_; clear hK K
    (repeat refine PW.seq ?_); refine PW.cond (t := _) rfl (fun h => ?_) (fun h => ?_)
    · cases h
    refine PW.exit ?_
    have he : w = wkN L wk0 0 L := he
    have wd1 := wd w hw.sq.toL
    have wr1 := wr w.drop ((wdrop_k hw).mono (by omega))
    have hfin : w.drop.reset = walked L := by rw [he]; rfl
    have hok := wreset_k (wdrop_k hw)
    rw [hfin] at wr1 hok
    (repeat refine PW.seq ?_); refine PW.rg rfl fun K hK => ?_; simp (maxSteps := 3000000) (disch := omega) only [go_sem, ↓reduceIte, reduceCtorEq, pappend, plen]; refine VCx.call (wd1) rfl ?_; simp (maxSteps := 3000000) (disch := omega) only [go_sem, ↓reduceIte, reduceCtorEq, pappend, plen]; refine hK _ _ ?_; clear hK K
    (repeat refine PW.seq ?_); refine PW.rg rfl fun K hK => ?_; simp (maxSteps := 3000000) (disch := omega) only [go_sem, ↓reduceIte, reduceCtorEq, pappend, plen]; refine VCx.call (wr1) rfl ?_; simp (maxSteps := 3000000) (disch := omega) only [go_sem, ↓reduceIte, reduceCtorEq, pappend, plen]; refine hK _ _ ?_; clear hK K
    generalize walked L = v at *
    have hsq := hok.sq.toL
    have gi := (hH v).gi
    unfold wkB at gi
    have l1 := wkc_len (j := H.length + 2) (L := L) (fl := fl) v hsq
    have l2 : List.take 145 (wkc (H.length + 2) L fl v) = wkc (H.length + 2) L fl v := List.take_of_length_le (by omega)
    have l3 : (wkc (H.length + 2) L fl v).all PV.cell = true := by simp [wkc, wtl, sqc_cell, PV.cell]
    have g0 : (wR B (H.length + 1) (H.length + 2) L fl v)[H.length]? = some ⟨95, 0, zwk⟩ := by
      unfold wR tw
      rw [List.getElem?_set_ne (by omega), List.getElem?_set_ne (by omega)]
      exact hBg 0
    have z1 : zwk.length = 145 := rfl
    have z2 : List.drop 145 zwk = [] := rfl
    have hs : ∀ X, ((wR B (H.length + 1) (H.length + 2) L fl v).set H.length X)[H.length]? = some X := fun X => by rw [List.getElem?_set_self (by rw [wR_len]; omega)]
    (repeat refine PW.seq ?_); refine PW.rg rfl fun K hK => ?_; simp (maxSteps := 3000000) (disch := omega) only [go_sem, ↓reduceIte, reduceCtorEq, pappend, plen, gi, g0, l1, l2, l3, z1, z2, List.append_nil]; refine hK _ _ ?_; clear hK K
    refine PW.ret ⟨.agg (wkc (H.length + 2) L fl v), by simp (maxSteps := 3000000) (disch := omega) only [go_sem, ↓reduceIte, reduceCtorEq, pappend, plen, presults, presult, List.mapM_cons, List.mapM_nil, Option.pure_def, Option.bind_eq_bind, Option.bind_some, Array.toList, hs, l1, l2], ?_⟩
    have hheap : (wR B (H.length + 1) (H.length + 2) L fl v).set H.length ⟨95, 0, wkc (H.length + 2) L fl v⟩ = H ++ [⟨95, 0, wkc (H.length + 2) L fl v⟩, wkB (H.length + 2) L fl v, woB v.out] := by
      unfold wR tw
      have e0 := fun K X => set_in H K 0 X
      simp only [Nat.add_zero] at e0
      rw [hB, set_in, set_in, e0]
      rfl
    rw [hheap]
    refine Fin.base (Fz.aggC ⟨.id (sl_scoped (itL_sc _ _)), .id (.bool _), FzC.append (FzC.refl (sqc_scoped _ _)) ⟨.id (.int _ _), .id (.int _ _), .id (.bool _), .id (.int _ _), .id (.int _ _), .id (.int _ _), ?_, .id (.bool _), trivial⟩⟩)
    exact Fz.mslC (e := 30) (xs := v.out.flatMap enR) (by omega) (by rw [List.getElem?_append_right (by omega), Nat.add_sub_cancel_left]; rfl) (enR_len _) (FzC.refl (woB_sc _ _))
  | cons x r ih =>
    intro k w hr hw hop hk he
    obtain ⟨hkl, hx, hr2⟩ := nth_drop hr
    refine PL.round ?_; (repeat refine PW.seq ?_); refine PW.rg rfl fun K hK => ?_; simp (maxSteps := 3000000) (disch := omega) only [go_sem, ↓reduceIte, reduceCtorEq, pappend, plen]; refine hK _ _ ?_; clear hK K
    (repeat refine PW.seq ?_); refine PW.cond (t := _) rfl (fun h => ?_) (fun h => ?_)
    rotate_left
    · cases h
    have e0 : wkN L w k (x :: r) = wkN L (w.step L k x) ((k + 1 : Nat) : Int) r := rfl
    have ws1 := ws w (hw.mono (by omega)) hop k hkl
    rw [hx] at ws1
    refine PW.skip ?_
    (repeat refine PW.seq ?_); refine PW.block ?_
    (repeat refine PW.seq ?_); refine PW.rg rfl fun K hK => ?_; simp (maxSteps := 3000000) (disch := omega) only [go_sem, ↓reduceIte, reduceCtorEq, pappend, plen]; refine VCx.call (ws1) rfl ?_; simp (maxSteps := 3000000) (disch := omega) only [go_sem, ↓reduceIte, reduceCtorEq, pappend, plen]; refine hK _ _ ?_; clear hK K
    (repeat refine PW.seq ?_); refine PW.rg rfl fun K hK => ?_; simp (maxSteps := 3000000) (disch := omega) only [go_sem, ↓reduceIte, reduceCtorEq, pappend, plen]; refine hK _ _ ?_; clear hK K
    exact PL.at [0, 2, 3, 4] (ih (k + 1) (w.step L k x) hr2 (wstep_k hw _ x (by rw [← hx]; exact hL _ (List.getElem_mem _))) (wstep_op L w k hkl x hop) (by omega) (by rw [← he, e0])) rfl rfl
set_option maxHeartbeats 4000000 in
set_option maxRecDepth 100000 in
theorem strR_ok (L : List It) (fl : Bool) (hL : ∀ x ∈ L, SqOk x.s) (hn : L.length ≤ 800000) (H : Heap) : CallOk Tryz.prog 11 [.slice (itL L) L.length fl] H (.slice ((walked L).out.flatMap enR) (walked L).out.length false) H := by
  have wo := fun K => walked_ok L fl hL hn K
  have hsq : SqL (walked L).sq := (wreset_k (wdrop_k (wkN_k hL L 0 wk0 rfl wk0_k (.inl rfl) (Nat.zero_le _)).1)).sq.toL
  generalize walked L = v at *
  have l1 : (wkf L fl v).length = 145 := by simp only [wkf, List.length_cons, List.length_append, sqc_len _ hsq, List.length_nil]
  have l3 : (wkf L fl v).all PV.cell = true := by simp [wkf, sqc_cell, PV.cell]
  have l4 : (wkf L fl v)[143]? = some (.slice (v.out.flatMap enR) v.out.length false) := by
    unfold wkf
    rw [List.getElem?_cons_succ, List.getElem?_cons_succ, List.getElem?_append_right (by rw [sqc_len _ hsq]; omega), sqc_len _ hsq]
    rfl
  have l5 : List.take 145 (wkf L fl v) = wkf L fl v := List.take_of_length_le (by omega)
  have l6 : ∀ X, List.drop 145 (X : List PV) = List.drop 145 X := fun _ => rfl
  refine CallOk.body (F0 := [(0, .slice (itL L) L.length fl)]) Tryz.func11 rfl Tryz.ntmps11 Tryz.results11 rfl (by kernel_rfl) rfl ?_
  (repeat refine PW.seq ?_); refine PW.rg rfl fun K hK => ?_; simp (maxSteps := 3000000) (disch := omega) only [go_sem, ↓reduceIte, reduceCtorEq, pappend, plen]; refine hK _ _ ?_; clear hK K
  (repeat refine PW.seq ?_); refine PW.rg rfl fun K hK => ?_; simp (maxSteps := 3000000) (disch := omega) only [go_sem, ↓reduceIte, reduceCtorEq, pappend, plen]; refine VCx.call (wo _) rfl ?_; simp (maxSteps := 3000000) (disch := omega) only [go_sem, ↓reduceIte, reduceCtorEq, pappend, plen, l1, l3, l5]; refine hK _ _ ?_; clear hK K
  (repeat refine PW.seq ?_); refine PW.rg rfl fun K hK => ?_; simp (maxSteps := 3000000) (disch := omega) only [go_sem, ↓reduceIte, reduceCtorEq, pappend, plen, l1, l4]; refine hK _ _ ?_; clear hK K
  refine PW.ret ⟨.slice (v.out.flatMap enR) v.out.length false, by simp (maxSteps := 3000000) (disch := omega) only [go_sem, ↓reduceIte, reduceCtorEq, pappend, plen, presults, presult, List.mapM_cons, List.mapM_nil, Option.pure_def, Option.bind_eq_bind, Option.bind_some, Array.toList], ?_⟩
  exact Fin.base (.id (sl_scoped fun x hx => woB_sc _ _ x hx))
theorem strP_ok (L : List It) (fl : Bool) (hL : ∀ x ∈ L, SqOk x.s) (hn : L.length ≤ 800000) (H : Heap) : CallOk Tryz.prog 10 [.slice (itL L) L.length fl] H (.slice (((stru L).map (·.1)).flatMap enR) (stru L).length false) H := by
  have so := fun K => stru_ok L fl hL hn K
  have hsq : ∀ e ∈ stru L, SqL e.2.1 := (flush_g (dpN_g L hL L 0 (as0 sq0) dp0 rfl (as0_ok L) dp0_g (Nat.zero_le _))).1.ok.sq
  have hlen : (stru L).length ≤ 800000 := by have := (flush_g (dpN_g L hL L 0 (as0 sq0) dp0 rfl (as0_ok L) dp0_g (Nat.zero_le _))).1.ok.n; exact Nat.le_trans this hn
  generalize stru L = S at *
  have ln := en_len hsq
  refine CallOk.body (F0 := [(0, .slice (itL L) L.length fl)]) Tryz.func10 rfl Tryz.ntmps10 Tryz.results10 rfl (by kernel_rfl) rfl ?_
  (repeat refine PW.seq ?_); refine PW.rg rfl fun K hK => ?_; simp (maxSteps := 3000000) (disch := omega) only [go_sem, ↓reduceIte, reduceCtorEq, pappend, plen]; refine hK _ _ ?_; clear hK K
  (repeat refine PW.seq ?_); refine PW.rg rfl fun K hK => ?_; simp (maxSteps := 3000000) (disch := omega) only [go_sem, ↓reduceIte, reduceCtorEq, pappend, plen]; refine hK _ _ ?_; clear hK K
  (repeat refine PW.seq ?_); refine PW.rg rfl fun K hK => ?_; simp (maxSteps := 3000000) (disch := omega) only [go_sem, ↓reduceIte, reduceCtorEq, pappend, plen]; refine VCx.call (so _) rfl ?_; simp (maxSteps := 3000000) (disch := omega) only [go_sem, ↓reduceIte, reduceCtorEq, pappend, plen]; refine hK _ _ ?_; clear hK K
  refine PW.view (Vs.ghost 3 29 6 rfl) ?_
  (repeat refine PW.seq ?_); refine PW.block (PW.loop ?_)
  suffices hloop : ∀ (k : Nat), k ≤ S.length →
      PL Tryz.prog _ _ [(3, .msl H.length (((S.take k).map (·.1)).flatMap enR).length 0 k 6 true), (7, .slice (S.flatMap entc) S.length false), (8, .int .i64 (S.length : Int)), (9, .int .i64 (k : Int))] (H ++ [⟨29, (((S.take k).map (·.1)).flatMap enR).length, ((S.take k).map (·.1)).flatMap enR⟩]) _ by
    exact PL.at [3, 7, 8, 9] (hloop 0 (by omega)) rfl rfl
  intro k hk
  induction hd : S.length - k using Nat.strongRecOn generalizing k with
  | _ d ih =>
    have hlk : (((S.take k).map (·.1)).flatMap enR).length = k * 6 := by rw [enR_len, List.length_map, List.length_take, Nat.min_eq_left hk]
    refine PL.round ?_; (repeat refine PW.seq ?_); refine PW.rg rfl fun K hK => ?_; simp (maxSteps := 3000000) (disch := omega) only [go_sem, ↓reduceIte, reduceCtorEq, pappend, plen]; refine hK _ _ ?_; clear hK K
    (repeat refine PW.seq ?_); refine PW.cond (t := _) rfl (fun h => ?_) (fun h => ?_)
    · have hkl : k < S.length := by have := of_decide_eq_true h; omega
      have hnext := ih (S.length - (k + 1)) (by omega) (k + 1) (by omega) rfl
      have et : (S.take (k + 1)).map (·.1) = (S.take k).map (·.1) ++ [S[k].1] := by rw [List.take_add_one, List.getElem?_eq_getElem hkl, List.map_append]; rfl
      have es : ((S.take (k + 1)).map (·.1)).flatMap enR = ((S.take k).map (·.1)).flatMap enR ++ enR S[k].1 := by rw [et, List.flatMap_append, List.flatMap_cons, List.flatMap_nil, List.append_nil]
      have ia : List.take 147 (List.drop (k * 147) (S.flatMap entc)) = entc S[k] := flat_at entc 147 S k hkl fun e he => entc_len e (hsq e he)
      have x1 := entc_len _ (hsq _ (List.getElem_mem hkl))
      have x2 : List.take 6 (entc S[k]) = enR S[k].1 := rfl
      have x3 : (entc S[k]).all PV.cell = true := by simp [entc, sqc_cell, PV.cell, pic]
      have x4 : List.take 147 (entc S[k]) = entc S[k] := List.take_of_length_le (by omega)
      rw [es] at hnext
      have hA : ∀ x ∈ ((S.take k).map (·.1)).flatMap enR, Scoped H.length x := woB_sc _ _
      generalize ((S.take k).map (·.1)).flatMap enR = A at *
      have x5 : (enR S[k].1).length = 6 := rfl
      have x6 : List.take 6 (enR S[k].1) = enR S[k].1 := rfl
      have x7 : (enR S[k].1).all PV.cell = true := rfl
      refine PW.skip ?_; (repeat refine PW.seq ?_); refine PW.block ?_
      (repeat refine PW.seq ?_); refine PW.rg rfl fun K hK => ?_; simp (maxSteps := 3000000) (disch := omega) only [go_sem, ↓reduceIte, reduceCtorEq, pappend, plen, ln, ia, x1, x3, x4]; refine hK _ _ ?_; clear hK K
      have scA : ∀ x ∈ A, Scoped H.length x := hA
      have hl9 : (A ++ enR S[k].1).length = k * 6 + 6 := by rw [List.length_append, hlk, x5]
      (repeat refine PW.seq ?_); refine PW.rg rfl fun K hK => ?_; simp (maxSteps := 3000000) (disch := omega) only [go_sem, ↓reduceIte, reduceCtorEq, pappend, plen, x1, x2, x5, x6, x7, hlk]; refine hK _ _ ?_; clear hK K
      (repeat refine PW.seq ?_); refine PW.rg rfl fun K hK => ?_; simp (maxSteps := 3000000) (disch := omega) only [go_sem, ↓reduceIte, reduceCtorEq, pappend, plen]; refine hK _ _ ?_; clear hK K
      refine PL.keep [3, 7, 8, 9] ?_
      refine PL.view ?_ hnext
      refine Vs.trim (K := [⟨93, 0, entc S[k]⟩]) (fun h0 => HSc.snoc h0 fun x hx => ?_) (by simp) ?_ ?_
      · rcases List.mem_append.1 hx with hx | hx
        · exact (scA x hx).mono (Nat.le_succ _)
        · simp only [enR, List.mem_cons, List.not_mem_nil, or_false] at hx
          rcases hx with rfl | rfl | rfl | rfl | rfl | rfl <;> exact .int _ _
      · simp
      · refine ⟨?_, ?_, ?_, ?_, trivial⟩
        · exact .id (.msl (by simp))
        · exact .id (sl_scoped fun x hx => enB_sc _ _ x hx)
        · exact .id (.int _ _)
        · exact .id (.int _ _)
    · have hkl : k = S.length := by have := of_decide_eq_false h; omega
      subst hkl
      rw [List.take_length] at hlk ⊢
      refine PW.exit ?_
      (repeat refine PW.seq ?_); refine PW.rg rfl fun K hK => ?_; simp (maxSteps := 3000000) (disch := omega) only [go_sem, ↓reduceIte, reduceCtorEq, pappend, plen]; refine hK _ _ ?_; clear hK K
      refine PW.ret ⟨.msl H.length ((S.map (·.1)).flatMap enR).length 0 S.length 6 true, by simp (maxSteps := 3000000) (disch := omega) only [go_sem, ↓reduceIte, reduceCtorEq, pappend, plen, presults, presult, List.mapM_cons, List.mapM_nil, Option.pure_def, Option.bind_eq_bind, Option.bind_some, Array.toList], ?_⟩
      exact Fin.base (Fz.mslC (e := 29) (xs := (S.map (·.1)).flatMap enR) (Nat.le_refl _) (hp0 _ _ _) hlk (FzC.refl (woB_sc _ _)))
theorem awk12 (H : Heap) : CallOk Tryz.prog 12 [] H (.bool true) H := CallOk.evalT 1000000 (by kernel_rfl)
theorem lt60 {l : List It} (h : ltB l = true) : l.length ≤ 60 := by
  unfold ltB at h
  rw [Bool.and_eq_true, decide_eq_true_eq] at h
  exact h.1
set_option maxHeartbeats 4000000 in
set_option maxRecDepth 100000 in
theorem law_structure12 (l : List It) (f : Bool) (H : Heap) (hok : ∀ x ∈ l, ItOk x) : CallOk Tryz.prog 3 [.slice (itL l) l.length f] H (.bool true) H := by
  have hs : ∀ x ∈ l, SqOk x.s := fun x hx => (hok x hx).s
  have lo := fun K => light12 l f K hs
  refine CallOk.body (F0 := [(0, .slice (itL l) l.length f)]) Tryz.func3 rfl Tryz.ntmps3 Tryz.results3 rfl (by kernel_rfl) rfl ?_
  (repeat refine PW.seq ?_); refine PW.rg rfl fun K hK => ?_; simp (maxSteps := 3000000) (disch := omega) only [go_sem, ↓reduceIte, reduceCtorEq, pappend, plen]; refine hK _ _ ?_; clear hK K
  (repeat refine PW.seq ?_); refine PW.rg rfl fun K hK => ?_; simp (maxSteps := 3000000) (disch := omega) only [go_sem, ↓reduceIte, reduceCtorEq, pappend, plen]; refine VCx.call (lo _) rfl ?_; simp (maxSteps := 3000000) (disch := omega) only [go_sem, ↓reduceIte, reduceCtorEq, pappend, plen]; refine hK _ _ ?_; clear hK K
  cases hlt : ltB l with
  | false =>
    (repeat refine PW.seq ?_); refine PW.cond (t := _) rfl (fun h => ?_) (fun h => ?_)
    rotate_left
    · cases h
    (repeat refine PW.seq ?_); refine PW.rg rfl fun K hK => ?_; simp (maxSteps := 3000000) (disch := omega) only [go_sem, ↓reduceIte, reduceCtorEq, pappend, plen]; refine hK _ _ ?_; clear hK K
    (refine PW.ret ⟨_, rfl, ?_⟩; first | refine .inl ⟨?_, rfl⟩ | refine Fin.base (.id' ?_ (.bool _)) | refine Fin.base (.id' ?_ (.int _ _)))
    rfl
  | true =>
    have h60 := lt60 hlt
    have f1 := fun K => strP_ok l f hs (by omega) K
    have f2 := fun K => strR_ok l f hs (by omega) K
    have heq := stru_same l
    have hl2 : (stru l).length = (walked l).out.length := by rw [← heq, List.length_map]
    rw [heq, hl2] at f1
    have hN : (walked l).out.length ≤ l.length := (wreset_k (wdrop_k (wkN_k hs l 0 wk0 rfl wk0_k (.inl rfl) (Nat.zero_le _)).1)).n
    generalize (walked l).out = S at *
    have ln := enR_len S
    (repeat refine PW.seq ?_); refine PW.cond (t := _) rfl (fun h => ?_) (fun h => ?_)
    · cases h
    refine PW.skip ?_
    (repeat refine PW.seq ?_); refine PW.rg rfl fun K hK => ?_; simp (maxSteps := 3000000) (disch := omega) only [go_sem, ↓reduceIte, reduceCtorEq, pappend, plen]; refine VCx.call (f1 _) rfl ?_; simp (maxSteps := 3000000) (disch := omega) only [go_sem, ↓reduceIte, reduceCtorEq, pappend, plen]; refine VCx.call (f2 _) rfl ?_; simp (maxSteps := 3000000) (disch := omega) only [go_sem, ↓reduceIte, reduceCtorEq, pappend, plen]; refine hK _ _ ?_; clear hK K
    (repeat refine PW.seq ?_); refine PW.rg rfl fun K hK => ?_; simp (maxSteps := 3000000) (disch := omega) only [go_sem, ↓reduceIte, reduceCtorEq, pappend, plen, bne_self_eq_false]; refine hK _ _ ?_; clear hK K
    (repeat refine PW.seq ?_); refine PW.cond (t := _) rfl (fun h => ?_) (fun h => ?_)
    · cases h
    refine PW.skip ?_
    (repeat refine PW.seq ?_); refine PW.rg rfl fun K hK => ?_; simp (maxSteps := 3000000) (disch := omega) only [go_sem, ↓reduceIte, reduceCtorEq, pappend, plen]; refine hK _ _ ?_; clear hK K
    (repeat refine PW.seq ?_); refine PW.block (PW.loop ?_)
    suffices hl1 : ∀ j : Nat, j ≤ S.length → PL Tryz.prog _ _ [(3, .slice (S.flatMap enR) S.length false), (4, .slice (S.flatMap enR) S.length false), (5, .int .i64 (j : Int))] H _ by
      exact PL.at [3, 4, 5] (hl1 0 (by omega)) rfl rfl
    intro j hj
    induction hd : S.length - j using Nat.strongRecOn generalizing j with
    | _ d ih =>
      refine PL.round ?_; (repeat refine PW.seq ?_); refine PW.rg rfl fun K hK => ?_; simp (maxSteps := 3000000) (disch := omega) only [go_sem, ↓reduceIte, reduceCtorEq, pappend, plen]; refine hK _ _ ?_; clear hK K
      (repeat refine PW.seq ?_); refine PW.cond (t := _) rfl (fun h => ?_) (fun h => ?_)
      · have hjl : j < S.length := by have := of_decide_eq_true h; omega
        have hnext := ih (S.length - (j + 1)) (by omega) (j + 1) (by omega) rfl
        have ia : List.take 6 (List.drop (j * 6) (S.flatMap enR)) = enR S[j] := flat_at enR 6 S j hjl fun _ _ => rfl
        generalize S[j] = e at *
        obtain ⟨e1, e2, e3, e4, e5, e6⟩ := e
        refine PW.skip ?_; (repeat refine PW.seq ?_); refine PW.block ?_
        refine PW.view (Vs.place 29) (PW.view (Vs.place 30) ?_)
        rw [List.append_assoc]
        (repeat refine PW.seq ?_); refine PW.drawi [H.length, H.length + 1] [(6, [0]), (7, [1])] [(6, 0), (7, 1)] [] mix (by kernel_rfl) (by simp <;> omega) fun K hK => ?_
        simp (maxSteps := 3000000) (disch := omega) only [go_sem, ↓reduceIte, reduceCtorEq, pappend, plen, ln, ia, enR]
        refine hK _ _ ?_; clear hK K
        (repeat refine PW.seq ?_); refine PW.rg rfl fun K hK => ?_; simp (maxSteps := 3000000) (disch := omega) only [go_sem, ↓reduceIte, reduceCtorEq, pappend, plen, bne_self_eq_false]; refine hK _ _ ?_; clear hK K
        (repeat refine PW.seq ?_); refine PW.cond (t := _) rfl (fun h => ?_) (fun h => ?_)
        · cases h
        refine PW.skip ?_
        (repeat refine PW.seq ?_); refine PW.rg rfl fun K hK => ?_; simp (maxSteps := 3000000) (disch := omega) only [go_sem, ↓reduceIte, reduceCtorEq, pappend, plen]; refine hK _ _ ?_; clear hK K
        refine PL.keep [3, 4, 5] ?_
        refine PL.view (Vs.trim (F1 := [(3, .slice (S.flatMap enR) S.length false), (4, .slice (S.flatMap enR) S.length false), (5, .int .i64 ((j + 1 : Nat) : Int))]) (H1 := H) (fun h => h) (Nat.le_refl _) rfl ?_) hnext
        exact ⟨.id (sl_scoped fun x hx => woB_sc _ _ x hx), .id (sl_scoped fun x hx => woB_sc _ _ x hx), .id (.int _ _), trivial⟩
      · refine PW.exit ?_
        (repeat refine PW.seq ?_); refine PW.rg rfl fun K hK => ?_; simp (maxSteps := 3000000) (disch := omega) only [go_sem, ↓reduceIte, reduceCtorEq, pappend, plen]; refine VCx.call (awk12 _) rfl ?_; simp (maxSteps := 3000000) (disch := omega) only [go_sem, ↓reduceIte, reduceCtorEq, pappend, plen]; refine hK _ _ ?_; clear hK K
        (refine PW.ret ⟨_, rfl, ?_⟩; first | refine .inl ⟨?_, rfl⟩ | refine Fin.base (.id' ?_ (.bool _)) | refine Fin.base (.id' ?_ (.int _ _)))
        rfl

end Go.Proofs.YtahomnplappbpaaGreatDoor.Sc
