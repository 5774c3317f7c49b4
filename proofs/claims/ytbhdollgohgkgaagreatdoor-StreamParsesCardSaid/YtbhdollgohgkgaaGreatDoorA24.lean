/-
  Parts of the proof. No condition.
-/
import Derived.Test.YtbhdollgohgkgaaGreatDoorA12
namespace Go.Proofs.YtbhdollgohgkgaaGreatDoor.S3
set_option linter.all false
set_option linter.unusedVariables false
set_option linter.unusedSimpArgs false
open Pm Ty Sc Go.RowKit
set_option maxRecDepth 100000

theorem app_fdr {B : Nat} {H : Heap} {v : PV} {us : List Fnd} (hacc : Acc B 68 5 H v (fc us) us.length) (u : Fnd) (x y z : Int) (hx : x = (u.fr : Int)) (hy : y = (u.to : Int)) (hz : z = (u.nx : Int)) (h : us.length ≤ 100000000) (hB : B ≤ H.length) :
    ∃ v2 H2, pappend Tryz.prog H 65 65 v (.slice [.int .i64 u.t, .slice (bs u.p) u.p.length false, .int .i64 x, .int .i64 y, .int .i64 z] 1 true) = some (v2, H2) ∧ Acc B 68 5 H2 v2 (fc (us ++ [u])) (us ++ [u]).length ∧ Grew H H2 (own v) ∧ (own v2 = own v ∨ own v2 = some H.length) := by
  subst hx hy hz
  obtain ⟨v2, H2, hap, hacc2, hg2, ho2⟩ := hacc.append (P := Tryz.prog) (t := 65) (tx := 65) (x := .slice [.int .i64 u.t, .slice (bs u.p) u.p.length false, .int .i64 u.fr, .int .i64 u.to, .int .i64 u.nx] 1 true) (news := fc [u]) (m := 1) Tryz.underlying65 sz68 by68 zc68 (by decide) rfl
    (by simp [appSrc, Tryz.underlying65, scells, fc, fd, bv]) (by simp [fc, fd]) (by omega) (by omega) hB
  exact ⟨v2, H2, hap, by rw [fc_append, List.length_append]; exact hacc2, hg2, ho2⟩
theorem app_ddr {B : Nat} {H : Heap} {v : PV} {us : List (Nat × Nat)} (hacc : Acc B 74 2 H v (dc us) us.length) (u : Nat × Nat) (x y : Int) (hx : x = (u.1 : Int)) (hy : y = (u.2 : Int)) (h : us.length ≤ 100000000) (hB : B ≤ H.length) :
    ∃ v2 H2, pappend Tryz.prog H 28 28 v (.slice [.int .i64 x, .int .i64 y] 1 true) = some (v2, H2) ∧ Acc B 74 2 H2 v2 (dc (us ++ [u])) (us ++ [u]).length ∧ Grew H H2 (own v) ∧ (own v2 = own v ∨ own v2 = some H.length) := by
  subst hx hy
  obtain ⟨v2, H2, hap, hacc2, hg2, ho2⟩ := hacc.append (P := Tryz.prog) (t := 28) (tx := 28) (x := .slice (dd u) 1 true) (news := dc [u]) (m := 1) Tryz.underlying28 sz74 by74 zc74 (by decide) rfl
    (by simp [appSrc, Tryz.underlying28, scells, dc, dd]) (by simp [dc, dd]) (by omega) (by omega) hB
  exact ⟨v2, H2, hap, by rw [dc_append, List.length_append]; exact hacc2, hg2, ho2⟩


theorem split_ref (b : List UInt8) (full : Bool) (H : Heap) (hl : b.length ≤ 400000) : CallOk Tryz.prog 14 [.slice (bs b) b.length full] H (.tup [.slice (fc (spl b).1) (spl b).1.length false, .slice (dc (spl b).2) (spl b).2.length false]) H := by
  refine CallOk.body (F0 := [(0, .slice (bs b) b.length full)]) Tryz.func14 rfl Tryz.ntmps14 Tryz.results14 rfl (by kernel_rfl) rfl ?_
  refine PW.seq ?_; (repeat refine PW.seq ?_); refine PW.rg rfl fun K hK => ?_; simp (maxSteps := 3000000) (disch := omega) only [go_sem, ↓reduceIte, reduceCtorEq, pappend, plen]; refine hK _ _ ?_; clear hK K
  refine PW.seq ?_; (repeat refine PW.seq ?_); refine PW.rg rfl fun K hK => ?_; simp (maxSteps := 3000000) (disch := omega) only [go_sem, ↓reduceIte, reduceCtorEq, pappend, plen]; refine hK _ _ ?_; clear hK K
  refine PW.seq ?_; (repeat refine PW.seq ?_); refine PW.rg rfl fun K hK => ?_; simp (maxSteps := 3000000) (disch := omega) only [go_sem, ↓reduceIte, reduceCtorEq, pappend, plen]; refine hK _ _ ?_; clear hK K
  refine PW.seq ?_; (repeat refine PW.seq ?_); refine PW.rg rfl fun K hK => ?_; simp (maxSteps := 3000000) (disch := omega) only [go_sem, ↓reduceIte, reduceCtorEq, pappend, plen]; refine VCx.call (next_ref b full 0 H (by omega) (by omega)) rfl ?_; simp (maxSteps := 3000000) (disch := omega) only [go_sem, ↓reduceIte, reduceCtorEq, pappend, plen]; refine hK _ _ ?_; clear hK K
  have hn0 := nxt_le b 0
  refine PW.join [0, 4, 5, 6] (fun F' H' => ∃ v5 ds, F' = [(0, .slice (bs b) b.length full), (4, .slice [] 0 true), (5, v5), (6, .int .i64 (nxt b 0 : Int))] ∧ Acc H.length 74 2 H' v5 (dc ds) ds.length ∧ Kept H.length H H' ∧ ds.length ≤ 1 ∧
    ds = (if 0 < trm b 0 (nxt b 0) then [(0, nxt b 0)] else [])) ?_ ?_
  · have hcl := fun fl => clean_ok (part b 0 (nxt b 0)) fl H (by rw [part_len b _ _ (by omega)]; omega)
    rw [part_len b _ _ (by omega), ← bs_part] at hcl
    have hzz := zeros_trm b (nxt b 0) hn0
    have hpe : part b 0 (nxt b 0) = b.take (nxt b 0) := by simp [part]
    rw [hpe] at hcl
    simp only [List.drop_zero, Nat.sub_zero] at hcl
    refine PW.seq ?_; (repeat refine PW.seq ?_); refine PW.rg rfl fun K hK => ?_; simp (maxSteps := 3000000) (disch := omega) only [go_sem, ↓reduceIte, reduceCtorEq, pappend, plen, length_bs, Nat.sub_zero]; refine VCx.call (hcl _) rfl ?_; simp (maxSteps := 3000000) (disch := omega) only [go_sem, ↓reduceIte, reduceCtorEq, pappend, plen]; refine hK _ _ ?_; clear hK K
    (repeat refine PW.seq ?_); refine PW.cond (t := _) rfl (fun h => ?_) (fun h => ?_)
    · have h1 : 0 < trm b 0 (nxt b 0) := by
        have h2 : zeros (b.take (nxt b 0)) = false := by simpa using h
        rcases Nat.eq_zero_or_pos (trm b 0 (nxt b 0)) with h3 | h3
        · rw [hzz.2 h3] at h2; cases h2
        · exact h3
      obtain ⟨v2, H2, hap, hacc2, hg2, ho2⟩ := app_ddr (Acc.nil H.length _ 2 H) (us := []) (0, nxt b 0) 0 (nxt b 0 : Int) rfl rfl (by simp) (Nat.le_refl _)
      (repeat refine PW.seq ?_); refine PW.rg rfl fun K hK => ?_; simp (maxSteps := 3000000) (disch := omega) only [go_sem, ↓reduceIte, reduceCtorEq, plen, hap]; refine hK _ _ ?_; clear hK K
      exact ⟨v2, [(0, nxt b 0)], rfl, hacc2, (Kept.refl H).grew hg2 (fun j hj => by cases hj), by simp, by rw [if_pos h1]⟩
    · have h1 : ¬ 0 < trm b 0 (nxt b 0) := by
        have h2 : zeros (b.take (nxt b 0)) = true := by simpa using h
        rw [hzz.1 h2]; omega
      exact PW.skip ⟨_, [], rfl, Acc.nil _ _ _ _, Kept.refl H, by simp, by rw [if_neg h1]⟩
  rintro F' H' ⟨v5, ds, rfl, hacc5, hkept, hds, hdse⟩
  refine PW.seq (PW.block (PW.loop ?_))
  suffices hloop : ∀ (m i : Nat) (us : List Fnd) (ds : List (Nat × Nat)) (v4 v5 : PV) (H1 : Heap), i ≤ b.length → (i < b.length → i + 4 ≤ b.length) → b.length - i < m → us.length ≤ i → ds.length ≤ i + 1 → spl b = splF b m i us ds →
      Acc H.length 68 5 H1 v4 (fc us) us.length → Acc H.length 74 2 H1 v5 (dc ds) ds.length → Two v4 v5 → Kept H.length H H1 →
      PL Tryz.prog _ _ [(0, .slice (bs b) b.length full), (4, v4), (5, v5), (6, .int .i64 (i : Int))] H1 _ by
    exact PL.keep [0, 4, 5, 6] (hloop (b.length + 1) (nxt b 0) [] ds _ v5 H' hn0 (nxt_room b 0) (by omega) (by simp) (by omega) (by rw [hdse]; rfl) (Acc.nil _ _ _ _) hacc5 (fun j hj => by cases hj) hkept)
  clear hacc5 hkept hds hdse v5 ds H'
  intro m i us ds v4 v5 H1 hi hroom hm hus hds heq hacc4 hacc5 htwo hkept
  induction m generalizing i us ds v4 v5 H1 with
  | zero => omega
  | succ m ih =>
    refine PL.round (PW.seq (PW.seq ?_)); (repeat refine PW.seq ?_); refine PW.rg rfl fun K hK => ?_; simp (maxSteps := 3000000) (disch := omega) only [go_sem, ↓reduceIte, reduceCtorEq, pappend, plen, length_bs]; refine hK _ _ ?_; clear hK K
    (repeat refine PW.seq ?_); refine PW.cond (t := _) rfl (fun h => ?_) (fun h => ?_)
    · have h4 : i < b.length := by have := of_decide_eq_true h; omega
      have h5 := hroom h4
      have hx1 := nxt_le b (i + 4)
      have hx2 := nxt_ge b (i + 4) h5
      have hx3 := nxt_room b (i + 4)
      have ht1 := trm_le b (i + 4) (nxt b (i + 4))
      have ht2 := trm_ge b (i + 4) (nxt b (i + 4)) hx2
      rw [splF, if_pos h4] at heq
      refine PW.skip (PW.block (PW.seq ?_)); (repeat refine PW.seq ?_); refine PW.rg rfl fun K hK => ?_; simp (maxSteps := 3000000) (disch := omega) only [go_sem, ↓reduceIte, reduceCtorEq, pappend, plen]; refine VCx.call (next_ref b full (i + 4) H1 (by omega) (by omega)) rfl ?_; simp (maxSteps := 3000000) (disch := omega) only [go_sem, ↓reduceIte, reduceCtorEq, pappend, plen]; refine hK _ _ ?_; clear hK K
      generalize nxt b (i + 4) = nx at *
      refine PW.seq ?_; (repeat refine PW.seq ?_); refine PW.rg rfl fun K hK => ?_; simp (maxSteps := 3000000) (disch := omega) only [go_sem, ↓reduceIte, reduceCtorEq, pappend, plen]; refine hK _ _ ?_; clear hK K
      refine PW.seq (PW.block (PW.loop ?_))
      suffices hin : ∀ (k : Nat), k ≤ nx → trm b (i + 4) nx = trm b (i + 4) k →
          PL Tryz.prog _ _ [(0, .slice (bs b) b.length full), (4, v4), (5, v5), (6, .int .i64 (i : Int)), (7, .ptr H1.length 0 0)] (H1 ++ [⟨68, 0, [.int .i64 0, .slice [] 0 true, .int .i64 (i : Int), .int .i64 (k : Int), .int .i64 (nx : Int)]⟩]) _ by
        exact PL.keep [0, 4, 5, 6, 7] (hin nx (Nat.le_refl _) rfl)
      intro k hk hke
      induction hkm : k using Nat.strongRecOn generalizing k with
      | _ n ihk =>
        subst hkm
        refine PL.round (PW.seq (PW.seq (PW.rg1 [0, 4, 5, 6, 7, 48] [(0, .slice (bs b) b.length full), (4, v4), (5, v5), (6, .int .i64 (i : Int)), (7, .ptr H1.length 0 0), (48, .bool (decide (i + 4 < k ∧ byt b (k - 1) = 0)))]
          (H1 ++ [⟨68, 0, [.int .i64 0, .slice [] 0 true, .int .i64 (i : Int), .int .i64 (k : Int), .int .i64 (nx : Int)]⟩]) rfl ?_ ?_)))
        · by_cases h1 : i + 4 < k
          · have e : ((k : Int) - 1) = ((k - 1 : Nat) : Int) := by omega
            simp (maxSteps := 3000000) (disch := omega) only [go_sem, ↓reduceIte, reduceCtorEq, pappend, plen, length_bs, bs_get, e]
            try simp [h1]
            rw [Bool.eq_iff_iff]; simp
          · simp (maxSteps := 3000000) (disch := omega) only [go_sem, ↓reduceIte, reduceCtorEq, pappend, plen, length_bs, bs_get]
            try simp [h1]
        (repeat refine PW.seq ?_); refine PW.cond (t := _) rfl (fun h => ?_) (fun h => ?_)
        · have h6 := of_decide_eq_true h
          refine PW.skip (PW.block ?_); (repeat refine PW.seq ?_); refine PW.rg rfl fun K hK => ?_; simp (maxSteps := 3000000) (disch := omega) only [go_sem, ↓reduceIte, reduceCtorEq, pappend, plen]; refine hK _ _ ?_; clear hK K
          refine PL.keep [0, 4, 5, 6, 7] ?_
          have e : ((k : Int) - 1) = ((k - 1 : Nat) : Int) := by omega
          have := ihk (k - 1) (by omega) (k - 1) (by omega) (by rw [hke, trm_step b (i + 4) k h6]) rfl
          rw [← e] at this
          exact this
        · have h6 := of_decide_eq_false h
          rw [trm_stop b (i + 4) k h6] at hke
          clear ihk
          rw [hke] at ht1 ht2 heq
          refine PW.exit ?_
          have hun := fun fl H1 => unescape_ref (part b (i + 4) k) fl H1 (by rw [part_len b _ _ (by omega)]; omega)
          rw [part_len b _ _ (by omega), ← bs_part] at hun
          refine PW.seq ?_; (repeat refine PW.seq ?_); refine PW.rg rfl fun K hK => ?_; simp (maxSteps := 3000000) (disch := omega) only [go_sem, ↓reduceIte, reduceCtorEq, pappend, plen, length_bs]; refine VCx.call (hun _ _) rfl ?_; simp (maxSteps := 3000000) (disch := omega) only [go_sem, ↓reduceIte, reduceCtorEq, pappend, plen]; refine hK _ _ ?_; clear hK K
          have hby := byt_range b (i + 3)
          refine PW.seq (PW.seq ?_); (repeat refine PW.seq ?_); refine PW.rg rfl fun K hK => ?_; simp (maxSteps := 3000000) (disch := omega) only [go_sem, ↓reduceIte, reduceCtorEq, pappend, plen]; refine hK _ _ ?_; clear hK K
          (repeat refine PW.seq ?_); refine PW.cond (t := _) rfl (fun h => ?_) (fun h => ?_)
          · have h7 : (unR (part b (i + 4) k)).2 = 0 := by simpa using h
            rw [if_pos h7] at heq
            refine PW.seq ?_; (repeat refine PW.seq ?_); refine PW.rg rfl fun K hK => ?_; simp (maxSteps := 3000000) (disch := omega) only [go_sem, ↓reduceIte, reduceCtorEq, pappend, plen, length_bs, bs_get, bv]; refine hK _ _ ?_; clear hK K
            obtain ⟨v2, H2, hap, hacc2, hg2, ho2⟩ := app_fdr (hacc4.more [⟨68, 0, [.int .i64 (byt b (i + 3)), .slice (bs (unR (part b (i + 4) k)).1) (unR (part b (i + 4) k)).1.length false, .int .i64 (i : Int), .int .i64 (k : Int), .int .i64 (nx : Int)]⟩]) ⟨byt b (i + 3), (unR (part b (i + 4) k)).1, i, k, nx⟩ (i : Int) (k : Int) (nx : Int) rfl rfl rfl (by omega) (hkept.add _).1
            have hblk : H2[H1.length]? = some ⟨68, 0, [.int .i64 (byt b (i + 3)), .slice (bs (unR (part b (i + 4) k)).1) (unR (part b (i + 4) k)).1.length false, .int .i64 (i : Int), .int .i64 (k : Int), .int .i64 (nx : Int)]⟩ := by
              rw [hg2.other H1.length (by simp) (fun e => by have := (hacc4.own_ge _ e).2; omega)]; simp
            (repeat refine PW.seq ?_); refine PW.rg rfl fun K hK => ?_; simp (maxSteps := 3000000) (disch := omega) only [go_sem, ↓reduceIte, reduceCtorEq, plen, hap]; refine hK _ _ ?_; clear hK K
            (repeat refine PW.seq ?_); refine PW.rg rfl fun K hK => ?_; simp (maxSteps := 3000000) (disch := omega) only [go_sem, ↓reduceIte, reduceCtorEq, pappend, plen, hblk]; refine hK _ _ ?_; clear hK K
            refine PL.keep [0, 4, 5, 6] ?_
            exact ih nx (us ++ [⟨byt b (i + 3), (unR (part b (i + 4) k)).1, i, k, nx⟩]) ds v2 v5 H2 (by omega) hx3 (by omega) (by simp; omega) (by omega) heq hacc2 ((hacc5.more _).grew hg2 htwo.ne) (htwo.of (fun j hj => ((hacc5.more _).own_ge j hj).2) ho2) ((hkept.add _).grew hg2 (fun j hj => (hacc4.own_ge j hj).1))
          · have h7 : ¬ (unR (part b (i + 4) k)).2 = 0 := by simpa using h
            rw [if_neg h7] at heq
            obtain ⟨v2, H2, hap, hacc2, hg2, ho2⟩ := app_ddr (hacc5.more [⟨68, 0, [.int .i64 0, .slice [] 0 true, .int .i64 (i : Int), .int .i64 (k : Int), .int .i64 (nx : Int)]⟩]) (i, k) (i : Int) (k : Int) rfl rfl (by omega) (hkept.add _).1
            have hblk : H2[H1.length]? = some ⟨68, 0, [.int .i64 0, .slice [] 0 true, .int .i64 (i : Int), .int .i64 (k : Int), .int .i64 (nx : Int)]⟩ := by
              rw [hg2.other H1.length (by simp) (fun e => by have := (hacc5.own_ge _ e).2; omega)]; simp
            (repeat refine PW.seq ?_); refine PW.rg rfl fun K hK => ?_; simp (maxSteps := 3000000) (disch := omega) only [go_sem, ↓reduceIte, reduceCtorEq, plen, hap]; refine hK _ _ ?_; clear hK K
            (repeat refine PW.seq ?_); refine PW.rg rfl fun K hK => ?_; simp (maxSteps := 3000000) (disch := omega) only [go_sem, ↓reduceIte, reduceCtorEq, pappend, plen, hblk]; refine hK _ _ ?_; clear hK K
            refine PL.keep [0, 4, 5, 6] ?_
            exact ih nx us (ds ++ [(i, k)]) v4 v2 H2 (by omega) hx3 (by omega) (by omega) (by simp; omega) heq ((hacc4.more _).grew hg2 htwo.symm.ne) hacc2 (htwo.symm.of (fun j hj => ((hacc4.more _).own_ge j hj).2) ho2).symm ((hkept.add _).grew hg2 (fun j hj => (hacc5.own_ge j hj).1))
    · have h4 : ¬ i < b.length := by have := of_decide_eq_false h; omega
      rw [splF, if_neg h4] at heq
      rw [heq]
      refine PW.exit (PW.seq ?_); (repeat refine PW.seq ?_); refine PW.rg rfl fun K hK => ?_; simp (maxSteps := 3000000) (disch := omega) only [go_sem, ↓reduceIte, reduceCtorEq, pappend, plen]; refine hK _ _ ?_; clear hK K
      exact PW.ret ⟨_, rfl, Fin.give hkept (Frz.tup2 (Frz.acc hacc4 (fc_still _)) (Frz.acc hacc5 (dc_still _)))⟩

end Go.Proofs.YtbhdollgohgkgaaGreatDoor.S3

namespace Go.Proofs.YtbhdollgohgkgaaGreatDoor.S3
set_option linter.all false
set_option linter.unusedVariables false
set_option linter.unusedSimpArgs false
open Pm Ty Sc Go.RowKit
set_option maxRecDepth 100000

def fn (l : List Fnd) (i : Nat) : Fnd := l.getD i ⟨0, [], 0, 0, 0⟩
theorem splF_len (b : List UInt8) : ∀ (n i : Nat) (us : List Fnd) (ds : List (Nat × Nat)), (splF b n i us ds).1.length ≤ us.length + n ∧ (splF b n i us ds).2.length ≤ ds.length + n
  | 0, i, us, ds => by simp [splF]
  | n + 1, i, us, ds => by
    unfold splF
    split
    · split
      · have := splF_len b n (nxt b (i + 4)) (us ++ [⟨byt b (i + 3), (unR (part b (i + 4) (trm b (i + 4) (nxt b (i + 4))))).1, i, trm b (i + 4) (nxt b (i + 4)), nxt b (i + 4)⟩]) ds
        simp at this; omega
      · have := splF_len b n (nxt b (i + 4)) us (ds ++ [(i, trm b (i + 4) (nxt b (i + 4)))])
        simp at this; omega
    · simp
theorem spl_len (b : List UInt8) : (spl b).1.length ≤ b.length + 1 ∧ (spl b).2.length ≤ b.length + 2 := by
  have := splF_len b (b.length + 1) (nxt b 0) [] (if 0 < trm b 0 (nxt b 0) then [(0, nxt b 0)] else [])
  unfold spl
  refine ⟨by simpa using this.1, ?_⟩
  have h2 := this.2
  have : (if 0 < trm b 0 (nxt b 0) then [(0, nxt b 0)] else []).length ≤ 1 := by split <;> simp
  omega

end Go.Proofs.YtbhdollgohgkgaaGreatDoor.S3
