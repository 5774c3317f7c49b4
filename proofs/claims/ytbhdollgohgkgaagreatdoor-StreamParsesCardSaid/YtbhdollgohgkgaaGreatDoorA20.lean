/-
  Parts of the proof. No condition.
-/
import Derived.Test.YtbhdollgohgkgaaGreatDoorA12
import Derived.Test.YtbhdollgohgkgaaGreatDoorA10
namespace Go.Proofs.YtbhdollgohgkgaaGreatDoor.Sc
set_option linter.all false
set_option linter.unusedVariables false
set_option linter.unusedSimpArgs false
open Pm Ty S3 Go.RowKit

theorem fc_snoc (us : List Fnd) (u : Fnd) : fc (us ++ [u]) = fc us ++ fd u := by simp [fc]
theorem dc_snoc (ds : List (Nat × Nat)) (d : Nat × Nat) : dc (ds ++ [d]) = dc ds ++ dd d := by simp [dc]
theorem fc_lnC (us : List Fnd) : (fc us).length = us.length * 5 := flat_len fd 5 us fun _ _ => rfl
theorem dc_lnC (ds : List (Nat × Nat)) : (dc ds).length = ds.length * 2 := flat_len dd 2 ds fun _ _ => rfl
theorem fc_sc (n : Nat) (us : List Fnd) : ∀ x ∈ fc us, Scoped n x := fun x hx => by
  obtain ⟨u, _, hu⟩ := List.mem_flatMap.1 hx
  simp only [fd, List.mem_cons, List.not_mem_nil, or_false] at hu
  rcases hu with rfl | rfl | rfl | rfl | rfl
  · exact .int _ _
  · exact sl_scoped (bs_scoped _ _)
  all_goals exact .int _ _
theorem dc_sc (n : Nat) (ds : List (Nat × Nat)) : ∀ x ∈ dc ds, Scoped n x := fun x hx => by
  obtain ⟨u, _, hu⟩ := List.mem_flatMap.1 hx
  simp only [dd, List.mem_cons, List.not_mem_nil, or_false] at hu
  rcases hu with rfl | rfl
  all_goals exact .int _ _
def dfB (ds : List (Nat × Nat)) : Blk := ⟨46, (dc ds).length, dc ds⟩
def fnB (us : List Fnd) : Blk := ⟨43, (fc us).length, fc us⟩

set_option maxHeartbeats 8000000 in
set_option maxRecDepth 100000 in
theorem split_m (b : List UInt8) (full : Bool) (H : Heap) (hl : b.length ≤ 2000000) : CallOk Tryz.prog 9 [.slice (bs b) b.length full] H
    (.tup [.slice (fc (spl b).1) (spl b).1.length false, .msl H.length (dc (spl b).2).length 0 (spl b).2.length 2 true]) (H ++ [dfB (spl b).2]) := by
  have hn0 := nxt_le b 0
  have no := fun K => next_ok b full 0 K hl (by omega)
  have to := fun K => trim_ok b full 0 (nxt b 0) K hl hn0 (by omega)
  refine CallOk.body (F0 := [(0, .slice (bs b) b.length full)]) Tryz.func9 rfl Tryz.ntmps9 Tryz.results9 rfl (by kernel_rfl) rfl ?_
  (repeat refine PW.seq ?_); refine PW.rg rfl fun K hK => ?_; simp (maxSteps := 3000000) (disch := omega) only [go_sem, ↓reduceIte, reduceCtorEq, pappend, plen]; refine hK _ _ ?_; clear hK K
  (repeat refine PW.seq ?_); refine PW.rg rfl fun K hK => ?_; simp (maxSteps := 3000000) (disch := omega) only [go_sem, ↓reduceIte, reduceCtorEq, pappend, plen]; refine hK _ _ ?_; clear hK K
  (repeat refine PW.seq ?_); refine PW.rg rfl fun K hK => ?_; simp (maxSteps := 3000000) (disch := omega) only [go_sem, ↓reduceIte, reduceCtorEq, pappend, plen]; refine hK _ _ ?_; clear hK K
  refine PW.view (Vs.ghost 5 46 2 rfl) ?_
  refine PW.view (Vs.ghost 4 43 5 rfl) ?_
  refine PW.at [0, 4, 5] (?_ : PW _ _ _ [(0, .slice (bs b) b.length full), (4, .msl (H.length + 1) 0 0 0 5 true), (5, .msl H.length 0 0 0 2 true)] (H ++ [⟨46, 0, []⟩, ⟨43, 0, []⟩]) _) (by simp [kp, slot, Nat.beq]) (by simp)
  (repeat refine PW.seq ?_); refine PW.rg rfl fun K hK => ?_; simp (maxSteps := 3000000) (disch := omega) only [go_sem, ↓reduceIte, reduceCtorEq, pappend, plen]; refine VCx.call (no _) rfl ?_; simp (maxSteps := 3000000) (disch := omega) only [go_sem, ↓reduceIte, reduceCtorEq, pappend, plen]; refine hK _ _ ?_; clear hK K
  (repeat refine PW.seq ?_); refine PW.rg rfl fun K hK => ?_; simp (maxSteps := 3000000) (disch := omega) only [go_sem, ↓reduceIte, reduceCtorEq, pappend, plen]; refine VCx.call (to _) rfl ?_; simp (maxSteps := 3000000) (disch := omega) only [go_sem, ↓reduceIte, reduceCtorEq, pappend, plen]; refine hK _ _ ?_; clear hK K
  have hroom0 := nxt_room b 0
  obtain ⟨d0, hd0⟩ : ∃ d0, d0 = (if 0 < trm b 0 (nxt b 0) then [(0, nxt b 0)] else []) := ⟨_, rfl⟩
  have heq0 : spl b = splF b (b.length + 1) (nxt b 0) [] d0 := by rw [hd0]; rfl
  have hd1 : d0.length ≤ 1 := by rw [hd0]; split <;> simp
  suffices hm : PW Tryz.prog _ _ [(0, .slice (bs b) b.length full), (4, .msl (H.length + 1) 0 0 0 5 true), (5, .msl H.length (dc d0).length 0 d0.length 2 true), (6, .int .i64 (nxt b 0 : Int))] (H ++ [dfB d0, ⟨43, 0, []⟩]) _ by
    by_cases h1 : 0 < trm b 0 (nxt b 0)
    · rw [if_pos h1] at hd0
      subst hd0
      have d1 : decide (0 < (trm b 0 (nxt b 0) : Int)) = true := decide_eq_true (by omega)
      (repeat refine PW.seq ?_); refine PW.cond (t := _) rfl (fun h => ?_) (fun h => ?_)
      rotate_left
      · rw [d1] at h; cases h
      (repeat refine PW.seq ?_); refine PW.rg rfl fun K hK => ?_; simp (maxSteps := 3000000) (disch := omega) only [go_sem, ↓reduceIte, reduceCtorEq, pappend, plen]; refine hK _ _ ?_; clear hK K
      exact PW.at [0, 4, 5, 6] hm rfl rfl
    · rw [if_neg h1] at hd0
      subst hd0
      have d1 : decide (0 < (trm b 0 (nxt b 0) : Int)) = false := decide_eq_false (by omega)
      (repeat refine PW.seq ?_); refine PW.cond (t := _) rfl (fun h => ?_) (fun h => ?_)
      · rw [d1] at h; cases h
      refine PW.skip ?_
      exact PW.at [0, 4, 5, 6] hm rfl rfl
  clear no to
  (repeat refine PW.seq ?_); refine PW.block (PW.loop ?_)
  suffices hloop : ∀ (m i : Nat) (us : List Fnd) (ds : List (Nat × Nat)), i ≤ b.length → (i < b.length → i + 4 ≤ b.length) → b.length - i < m → us.length ≤ i → ds.length ≤ i + 1 → spl b = splF b m i us ds →
      PL Tryz.prog _ _ [(0, .slice (bs b) b.length full), (4, .msl (H.length + 1) (fc us).length 0 us.length 5 true), (5, .msl H.length (dc ds).length 0 ds.length 2 true), (6, .int .i64 (i : Int))] (H ++ [dfB ds, fnB us]) _ by
    exact PL.at [0, 4, 5, 6] (hloop (b.length + 1) (nxt b 0) [] d0 hn0 hroom0 (by omega) (by simp) (by omega) heq0) rfl rfl
  clear heq0 hd0 hd1 d0 hroom0 hn0
  intro m i us ds hi hroom hm hus hds heq
  induction m generalizing i us ds with
  | zero => omega
  | succ m ih =>
    by_cases h4 : i < b.length
    · have ct : decide ((i : Int) < (b.length : Int)) = true := decide_eq_true (by omega)
      have h5 := hroom h4
      have hx1 := nxt_le b (i + 4)
      have hx2 := nxt_ge b (i + 4) h5
      have hx3 := nxt_room b (i + 4)
      have ht1 := trm_le b (i + 4) (nxt b (i + 4))
      have ht2 := trm_ge b (i + 4) (nxt b (i + 4)) hx2
      have no := fun K => next_ok b full (i + 4) K hl (by omega)
      have to := fun K => trim_ok b full (i + 4) (nxt b (i + 4)) K hl hx1 (by omega)
      rw [splF, if_pos h4] at heq
      refine PL.round ?_; (repeat refine PW.seq ?_); refine PW.rg rfl fun K hK => ?_; simp (maxSteps := 3000000) (disch := omega) only [go_sem, ↓reduceIte, reduceCtorEq, pappend, plen, length_bs, ct]; refine hK _ _ ?_; clear hK K; (repeat refine PW.seq ?_); refine PW.cond (t := _) rfl (fun h => ?_) (fun h => ?_)
      rotate_left
      · cases h
      refine PW.skip ?_; (repeat refine PW.seq ?_); refine PW.block ?_
      (repeat refine PW.seq ?_); refine PW.rg rfl fun K hK => ?_; simp (maxSteps := 3000000) (disch := omega) only [go_sem, ↓reduceIte, reduceCtorEq, pappend, plen]; refine hK _ _ ?_; clear hK K
      have e4 : ((i : Int) + 4) = ((i + 4 : Nat) : Int) := by omega
      (repeat refine PW.seq ?_); refine PW.rg rfl fun K hK => ?_; simp (maxSteps := 3000000) (disch := omega) only [go_sem, ↓reduceIte, reduceCtorEq, pappend, plen, e4]; refine VCx.call (no _) rfl ?_; simp (maxSteps := 3000000) (disch := omega) only [go_sem, ↓reduceIte, reduceCtorEq, pappend, plen]; refine hK _ _ ?_; clear hK K
      (repeat refine PW.seq ?_); refine PW.rg rfl fun K hK => ?_; simp (maxSteps := 3000000) (disch := omega) only [go_sem, ↓reduceIte, reduceCtorEq, pappend, plen, e4]; refine VCx.call (to _) rfl ?_; simp (maxSteps := 3000000) (disch := omega) only [go_sem, ↓reduceIte, reduceCtorEq, pappend, plen]; refine hK _ _ ?_; clear hK K
      clear no to
      generalize nxt b (i + 4) = nx at *
      generalize trm b (i + 4) nx = tt at *
      have hun := fun fl K => unescape_ok (S3.part b (i + 4) tt) fl K (by rw [S3.part_len b _ _ (by omega)]; omega)
      rw [S3.part_len b _ _ (by omega), ← bs_part] at hun
      unfold bv at hun
      (repeat refine PW.seq ?_); refine PW.rg rfl fun K hK => ?_; simp (maxSteps := 3000000) (disch := omega) only [go_sem, ↓reduceIte, reduceCtorEq, pappend, plen, length_bs]; refine VCx.call (hun _ _) rfl ?_; simp (maxSteps := 3000000) (disch := omega) only [go_sem, ↓reduceIte, reduceCtorEq, pappend, plen]; refine hK _ _ ?_; clear hK K
      have lf := fc_lnC us
      have ld := dc_lnC ds
      by_cases h6 : (unR (S3.part b (i + 4) tt)).2 = 0
      · rw [if_pos h6] at heq
        have d6 : ((unR (S3.part b (i + 4) tt)).2 != 0) = false := by simp [h6]
        have hby := byt_range b (i + 3)
        have e3 : i + 4 - 1 = i + 3 := by omega
        have e5 : (((i + 4 : Nat) : Int) - 4) = (i : Int) := by omega
        have hnext := ih nx (us ++ [⟨byt b (i + 3), (unR (S3.part b (i + 4) tt)).1, i, tt, nx⟩]) ds hx1 hx3 (by omega) (by simp; omega) (by omega) heq
        (repeat refine PW.seq ?_); refine PW.rg rfl fun K hK => ?_; simp (maxSteps := 3000000) (disch := omega) only [go_sem, ↓reduceIte, reduceCtorEq, pappend, plen, d6]; refine hK _ _ ?_; clear hK K; (repeat refine PW.seq ?_); refine PW.cond (t := _) rfl (fun h => ?_) (fun h => ?_)
        · cases h
        refine PW.skip ?_
        (repeat refine PW.seq ?_); refine PW.rg rfl fun K hK => ?_; simp (maxSteps := 3000000) (disch := omega) only [go_sem, ↓reduceIte, reduceCtorEq, pappend, plen, length_bs, bs_get, e3]; refine hK _ _ ?_; clear hK K
        (repeat refine PW.seq ?_); refine PW.rg rfl fun K hK => ?_; simp (maxSteps := 3000000) (disch := omega) only [go_sem, ↓reduceIte, reduceCtorEq, pappend, plen, fnB, lf, e5]; refine hK _ _ ?_; clear hK K
        generalize hu : (⟨byt b (i + 3), (unR (S3.part b (i + 4) tt)).1, i, tt, nx⟩ : Fnd) = u at hnext
        have hfc : fc (us ++ [u]) = fc us ++ [.int .i64 (byt b (i + 3)), .slice (bs (unR (S3.part b (i + 4) tt)).1) (unR (S3.part b (i + 4) tt)).1.length false, .int .i64 (i : Int), .int .i64 (tt : Int), .int .i64 (nx : Int)] := by rw [fc_snoc, ← hu]; rfl
        refine PL.at [0, 4, 5, 6] (?_ : PL _ _ _ [(0, .slice (bs b) b.length full), (4, .msl (H.length + 1) (fc (us ++ [u])).length 0 (us ++ [u]).length 5 true), (5, .msl H.length (dc ds).length 0 ds.length 2 true), (6, .int .i64 (nx : Int))] (H ++ [dfB ds, fnB (us ++ [u]), ⟨41, 0, [.int .i64 (byt b (i + 3)), .slice (bs (unR (S3.part b (i + 4) tt)).1) (unR (S3.part b (i + 4) tt)).1.length false]⟩]) _) (by rw [hfc, show (us ++ [u]).length = us.length + 1 by simp]; rfl) (by unfold fnB; rw [hfc])
        refine PL.view (Vs.trim (F1 := [(0, .slice (bs b) b.length full), (4, .msl (H.length + 1) (fc (us ++ [u])).length 0 (us ++ [u]).length 5 true), (5, .msl H.length (dc ds).length 0 ds.length 2 true), (6, .int .i64 (nx : Int))]) (H1 := H ++ [dfB ds, fnB (us ++ [u])]) (K := [⟨41, 0, [.int .i64 (byt b (i + 3)), .slice (bs (unR (S3.part b (i + 4) tt)).1) (unR (S3.part b (i + 4) tt)).1.length false]⟩]) (fun hh => hscW (fun c hc x hx => ?_) hh) (by simp) (by simp) ?_) hnext
        · simp only [List.mem_cons, List.not_mem_nil, or_false] at hc
          rcases hc with rfl | rfl
          · exact dc_sc _ _ x hx
          · exact fc_sc _ _ x hx
        · rw [show (H ++ [dfB ds, fnB (us ++ [u])] : Heap).length = H.length + 2 by simp]
          exact ⟨.id (sl_scoped (bs_scoped _ _)), .id (.msl (by omega)), .id (.msl (by omega)), .id (.int _ _), trivial⟩
      · rw [if_neg h6] at heq
        have d6 : ((unR (S3.part b (i + 4) tt)).2 != 0) = true := by simpa using h6
        have hnext := ih nx us (ds ++ [(i, tt)]) hx1 hx3 (by omega) (by omega) (by simp; omega) heq
        (repeat refine PW.seq ?_); refine PW.rg rfl fun K hK => ?_; simp (maxSteps := 3000000) (disch := omega) only [go_sem, ↓reduceIte, reduceCtorEq, pappend, plen, d6]; refine hK _ _ ?_; clear hK K; (repeat refine PW.seq ?_); refine PW.cond (t := _) rfl (fun h => ?_) (fun h => ?_)
        rotate_left
        · cases h
        have e5 : (((i + 4 : Nat) : Int) - 4) = (i : Int) := by omega
        have hdc : dc (ds ++ [(i, tt)]) = dc ds ++ [.int .i64 (i : Int), .int .i64 (tt : Int)] := dc_snoc _ _
        (repeat refine PW.seq ?_); refine PW.rg rfl fun K hK => ?_; simp (maxSteps := 3000000) (disch := omega) only [go_sem, ↓reduceIte, reduceCtorEq, pappend, plen, dfB, ld, e5]; refine hK _ _ ?_; clear hK K
        refine PW.exit ?_
        exact PL.at [0, 4, 5, 6] hnext (by rw [hdc, show (ds ++ [(i, tt)]).length = ds.length + 1 by simp]; rfl) (by unfold dfB; rw [hdc])
    · have ct : decide ((i : Int) < (b.length : Int)) = false := decide_eq_false (by omega)
      rw [splF, if_neg h4] at heq
      rw [heq]
      refine PL.round ?_; (repeat refine PW.seq ?_); refine PW.rg rfl fun K hK => ?_; simp (maxSteps := 3000000) (disch := omega) only [go_sem, ↓reduceIte, reduceCtorEq, pappend, plen, length_bs, ct]; refine hK _ _ ?_; clear hK K; (repeat refine PW.seq ?_); refine PW.cond (t := _) rfl (fun h => ?_) (fun h => ?_)
      · cases h
      refine PW.exit ?_
      (repeat refine PW.seq ?_); refine PW.rg rfl fun K hK => ?_; simp (maxSteps := 3000000) (disch := omega) only [go_sem, ↓reduceIte, reduceCtorEq, pappend, plen]; refine hK _ _ ?_; clear hK K
      refine PW.ret ⟨.tup [.msl (H.length + 1) (fc us).length 0 us.length 5 true, .msl H.length (dc ds).length 0 ds.length 2 true], by simp (maxSteps := 3000000) (disch := omega) only [go_sem, ↓reduceIte, reduceCtorEq, pappend, plen, presults, presult, List.mapM_cons, List.mapM_nil, Option.pure_def, Option.bind_eq_bind, Option.bind_some, Array.toList], ?_⟩
      refine Fin.more (A := H) (L := [dfB ds]) (K := [fnB us]) (L1 := [dfB ds]) (by simp) rfl (fun h => h) ⟨rfl, rfl, FzC.refl (dc_sc _ _), trivial⟩ ?_
      rw [show (H ++ [dfB ds] : Heap).length = H.length + 1 by simp]
      exact Fz.tupC ⟨Fz.mslC (e := 43) (xs := fc us) (by omega) (apn _ _ 1) (fc_lnC us) (FzC.refl (fc_sc _ _)), .id (.msl (by omega)), trivial⟩

end Go.Proofs.YtbhdollgohgkgaaGreatDoor.Sc
