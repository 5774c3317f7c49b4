/-
  Contracts of chapter 3: both Split.
-/
import Derived.Test.YtdeehmdkpdgpfaaSi
namespace Go.Proofs.Ytdeehmdkpdgpfaa.Sc
set_option linter.all false
set_option linter.unusedVariables false
set_option linter.unusedSimpArgs false
open Pm Ty Go.RowKit

theorem app_fd {B : Nat} {H : Heap} {v : PV} {us : List Fnd} (hacc : Acc B 45 5 H v (fc us) us.length) (u : Fnd) (x y z : Int) (hx : x = (u.fr : Int)) (hy : y = (u.to : Int)) (hz : z = (u.nx : Int)) (h : us.length ≤ 100000000) (hB : B ≤ H.length) :
    ∃ v2 H2, pappend Try.prog H 35 35 v (.slice [.int .i64 u.t, .slice (bs u.p) u.p.length false, .int .i64 x, .int .i64 y, .int .i64 z] 1 true) = some (v2, H2) ∧ Acc B 45 5 H2 v2 (fc (us ++ [u])) (us ++ [u]).length ∧ Grew H H2 (own v) ∧ (own v2 = own v ∨ own v2 = some H.length) := by
  subst hx hy hz
  obtain ⟨v2, H2, hap, hacc2, hg2, ho2⟩ := hacc.append (P := Try.prog) (t := 35) (tx := 35) (x := .slice [.int .i64 u.t, .slice (bs u.p) u.p.length false, .int .i64 u.fr, .int .i64 u.to, .int .i64 u.nx] 1 true) (news := fc [u]) (m := 1) Try.underlying35 sz45 by45 zc45 (by decide) rfl
    (by simp [appSrc, Try.underlying35, scells, fc, fd, bv]) (by simp [fc, fd]) (by omega) (by omega) hB
  exact ⟨v2, H2, hap, by rw [fc_append, List.length_append]; exact hacc2, hg2, ho2⟩
theorem app_dd {B : Nat} {H : Heap} {v : PV} {us : List (Nat × Nat)} (hacc : Acc B 48 2 H v (dc us) us.length) (u : Nat × Nat) (x y : Int) (hx : x = (u.1 : Int)) (hy : y = (u.2 : Int)) (h : us.length ≤ 100000000) (hB : B ≤ H.length) :
    ∃ v2 H2, pappend Try.prog H 36 36 v (.slice [.int .i64 x, .int .i64 y] 1 true) = some (v2, H2) ∧ Acc B 48 2 H2 v2 (dc (us ++ [u])) (us ++ [u]).length ∧ Grew H H2 (own v) ∧ (own v2 = own v ∨ own v2 = some H.length) := by
  subst hx hy
  obtain ⟨v2, H2, hap, hacc2, hg2, ho2⟩ := hacc.append (P := Try.prog) (t := 36) (tx := 36) (x := .slice (dd u) 1 true) (news := dc [u]) (m := 1) Try.underlying36 sz48 by48 zc48 (by decide) rfl
    (by simp [appSrc, Try.underlying36, scells, dc, dd]) (by simp [dc, dd]) (by omega) (by omega) hB
  exact ⟨v2, H2, hap, by rw [dc_append, List.length_append]; exact hacc2, hg2, ho2⟩

theorem split_ok (b : List UInt8) (full : Bool) (H : Heap) (hl : b.length ≤ 1000000) : CallOk Try.prog 20 [.slice (bs b) b.length full] H (.tup [.slice (fc (spl b).1) (spl b).1.length false, .slice (dc (spl b).2) (spl b).2.length false]) H := by
  refine CallOk.body (F0 := [(0, .slice (bs b) b.length full)]) Try.func20 rfl Try.ntmps20 Try.results20 rfl (by kernel_rfl) rfl ?_
  refine PW.seq ?_; refine PW.rg rfl fun K hK => ?_; simp (disch := omega) only [go_sem, ↓reduceIte, reduceCtorEq, pappend, plen]; refine hK _ _ ?_; clear hK K
  refine PW.seq ?_; refine PW.rg rfl fun K hK => ?_; simp (disch := omega) only [go_sem, ↓reduceIte, reduceCtorEq, pappend, plen]; refine hK _ _ ?_; clear hK K
  refine PW.seq ?_; refine PW.rg rfl fun K hK => ?_; simp (disch := omega) only [go_sem, ↓reduceIte, reduceCtorEq, pappend, plen]; refine hK _ _ ?_; clear hK K
  refine PW.seq ?_; refine PW.rg rfl fun K hK => ?_; simp (disch := omega) only [go_sem, ↓reduceIte, reduceCtorEq, pappend, plen]; refine VC.call (next_ok b full 0 H hl (by omega)) rfl rfl ?_; simp (disch := omega) only [go_sem, ↓reduceIte, reduceCtorEq, pappend, plen]; refine hK _ _ ?_; clear hK K
  have hn0 := nxt_le b 0
  refine PW.join [0, 4, 5, 6] (fun F' H' => ∃ v5 ds, F' = [(0, .slice (bs b) b.length full), (4, .slice [] 0 true), (5, v5), (6, .int .i64 (nxt b 0 : Int))] ∧ Acc H.length 48 2 H' v5 (dc ds) ds.length ∧ Kept H.length H H' ∧ ds.length ≤ 1 ∧
    ds = (if 0 < trm b 0 (nxt b 0) then [(0, nxt b 0)] else [])) ?_ ?_
  · refine PW.seq ?_; refine PW.rg rfl fun K hK => ?_; simp (disch := omega) only [go_sem, ↓reduceIte, reduceCtorEq, pappend, plen]; refine VC.call (trim_ok b full 0 (nxt b 0) H hl hn0 (by omega)) rfl rfl ?_; simp (disch := omega) only [go_sem, ↓reduceIte, reduceCtorEq, pappend, plen]; refine hK _ _ ?_; clear hK K
    refine PW.cond (t := _) rfl (fun h => ?_) (fun h => ?_)
    · have h1 : 0 < trm b 0 (nxt b 0) := by have := of_decide_eq_true h; omega
      obtain ⟨v2, H2, hap, hacc2, hg2, ho2⟩ := app_dd (Acc.nil H.length _ 2 H) (us := []) (0, nxt b 0) 0 (nxt b 0 : Int) rfl rfl (by simp) (Nat.le_refl _)
      refine PW.rg rfl fun K hK => ?_; simp (disch := omega) only [go_sem, ↓reduceIte, reduceCtorEq, plen, hap]; refine hK _ _ ?_; clear hK K
      exact ⟨v2, [(0, nxt b 0)], rfl, hacc2, (Kept.refl H).grew hg2 (fun j hj => by cases hj), by simp, by rw [if_pos h1]⟩
    · have h1 : ¬ 0 < trm b 0 (nxt b 0) := by have := of_decide_eq_false h; omega
      exact PW.skip ⟨_, [], rfl, Acc.nil _ _ _ _, Kept.refl H, by simp, by rw [if_neg h1]⟩
  rintro F' H' ⟨v5, ds, rfl, hacc5, hkept, hds, hdse⟩
  refine PW.seq (PW.block (PW.loop ?_))
  suffices hloop : ∀ (m i : Nat) (us : List Fnd) (ds : List (Nat × Nat)) (v4 v5 : PV) (H1 : Heap), i ≤ b.length → (i < b.length → i + 4 ≤ b.length) → b.length - i < m → us.length ≤ i → ds.length ≤ i + 1 → spl b = splF b m i us ds →
      Acc H.length 45 5 H1 v4 (fc us) us.length → Acc H.length 48 2 H1 v5 (dc ds) ds.length → Two v4 v5 → Kept H.length H H1 →
      PL Try.prog _ _ [(0, .slice (bs b) b.length full), (4, v4), (5, v5), (6, .int .i64 (i : Int))] H1 _ by
    exact PL.keep [0, 4, 5, 6] (hloop (b.length + 1) (nxt b 0) [] ds _ v5 H' hn0 (nxt_room b 0) (by omega) (by simp) (by omega) (by rw [hdse]; rfl) (Acc.nil _ _ _ _) hacc5 (fun j hj => by cases hj) hkept)
  clear hacc5 hkept hds hdse v5 ds H'
  intro m i us ds v4 v5 H1 hi hroom hm hus hds heq hacc4 hacc5 htwo hkept
  induction m generalizing i us ds v4 v5 H1 with
  | zero => omega
  | succ m ih =>
    refine PL.round (PW.seq (PW.seq ?_)); refine PW.rg rfl fun K hK => ?_; simp (disch := omega) only [go_sem, ↓reduceIte, reduceCtorEq, pappend, plen, length_bs]; refine hK _ _ ?_; clear hK K
    refine PW.cond (t := _) rfl (fun h => ?_) (fun h => ?_)
    · have h4 : i < b.length := by have := of_decide_eq_true h; omega
      have h5 := hroom h4
      have hx1 := nxt_le b (i + 4)
      have hx2 := nxt_ge b (i + 4) h5
      have hx3 := nxt_room b (i + 4)
      have ht1 := trm_le b (i + 4) (nxt b (i + 4))
      have ht2 := trm_ge b (i + 4) (nxt b (i + 4)) hx2
      rw [splF, if_pos h4] at heq
      refine PW.skip (PW.block (PW.seq ?_)); refine PW.rg rfl fun K hK => ?_; simp (disch := omega) only [go_sem, ↓reduceIte, reduceCtorEq, pappend, plen]; refine hK _ _ ?_; clear hK K
      refine PW.seq ?_; refine PW.rg rfl fun K hK => ?_; simp (disch := omega) only [go_sem, ↓reduceIte, reduceCtorEq, pappend, plen]; refine VC.call (next_ok b full (i + 4) H1 hl (by omega)) rfl rfl ?_; simp (disch := omega) only [go_sem, ↓reduceIte, reduceCtorEq, pappend, plen]; refine hK _ _ ?_; clear hK K
      refine PW.seq ?_; refine PW.rg rfl fun K hK => ?_; simp (disch := omega) only [go_sem, ↓reduceIte, reduceCtorEq, pappend, plen]; refine VC.call (trim_ok b full (i + 4) (nxt b (i + 4)) H1 hl hx1 (by omega)) rfl rfl ?_; simp (disch := omega) only [go_sem, ↓reduceIte, reduceCtorEq, pappend, plen]; refine hK _ _ ?_; clear hK K
      generalize nxt b (i + 4) = nx at *
      generalize trm b (i + 4) nx = to at *
      have hun := fun fl H1 => unescape_ok (part b (i + 4) to) fl H1 (by rw [part_len b _ _ (by omega)]; omega)
      rw [part_len b _ _ (by omega), ← bs_part] at hun
      refine PW.seq ?_; refine PW.rg rfl fun K hK => ?_; simp (disch := omega) only [go_sem, ↓reduceIte, reduceCtorEq, pappend, plen, length_bs]; refine VC.call (hun _ _) rfl rfl ?_; simp (disch := omega) only [go_sem, ↓reduceIte, reduceCtorEq, pappend, plen]; refine hK _ _ ?_; clear hK K
      refine PW.seq (PW.seq ?_); refine PW.rg rfl fun K hK => ?_; simp (disch := omega) only [go_sem, ↓reduceIte, reduceCtorEq, pappend, plen]; refine hK _ _ ?_; clear hK K
      refine PW.cond (t := _) rfl (fun h => ?_) (fun h => ?_)
      · have h6 : ¬ (unR (part b (i + 4) to)).2 = 0 := by simpa using h
        rw [if_neg h6] at heq
        obtain ⟨v2, H2, hap, hacc2, hg2, ho2⟩ := app_dd hacc5 (i, to) ((i : Int) + 4 - 4) (to : Int) (by show (i : Int) + 4 - 4 = (i : Int); omega) rfl (by omega) hkept.1
        refine PW.seq ?_; refine PW.rg rfl fun K hK => ?_; simp (disch := omega) only [go_sem, ↓reduceIte, reduceCtorEq, plen, hap]; refine hK _ _ ?_; clear hK K
        refine PW.exit ?_
        refine PL.keep [0, 4, 5, 6] ?_
        exact ih nx us (ds ++ [(i, to)]) v4 v2 H2 (by omega) hx3 (by omega) (by omega) (by simp; omega) heq (hacc4.grew hg2 htwo.symm.ne) hacc2 (htwo.symm.of (fun j hj => (hacc4.own_ge j hj).2) ho2).symm (hkept.grew hg2 (fun j hj => (hacc5.own_ge j hj).1))
      · have h6 : (unR (part b (i + 4) to)).2 = 0 := by simpa using h
        rw [if_pos h6] at heq
        have hby := byt_range b (i + 3)
        have e3 : i + 4 - 1 = i + 3 := by omega
        refine PW.skip (PW.seq ?_); refine PW.rg rfl fun K hK => ?_; simp (disch := omega) only [go_sem, ↓reduceIte, reduceCtorEq, pappend, plen, length_bs, bs_get, e3, bv]; refine hK _ _ ?_; clear hK K
        obtain ⟨v2, H2, hap, hacc2, hg2, ho2⟩ := app_fd (hacc4.more [⟨24, 0, [.int .i64 (byt b (i + 3)), .slice (bs (unR (part b (i + 4) to)).1) (unR (part b (i + 4) to)).1.length false]⟩]) ⟨byt b (i + 3), (unR (part b (i + 4) to)).1, i, to, nx⟩ ((i : Int) + 4 - 4) (to : Int) (nx : Int) (by show (i : Int) + 4 - 4 = (i : Int); omega) rfl rfl (by omega) (hkept.add _).1
        refine PW.rg rfl fun K hK => ?_; simp (disch := omega) only [go_sem, ↓reduceIte, reduceCtorEq, plen, hap]; refine hK _ _ ?_; clear hK K
        refine PL.keep [0, 4, 5, 6] ?_
        exact ih nx (us ++ [⟨byt b (i + 3), (unR (part b (i + 4) to)).1, i, to, nx⟩]) ds v2 v5 H2 (by omega) hx3 (by omega) (by simp; omega) (by omega) heq hacc2 ((hacc5.more _).grew hg2 htwo.ne) (htwo.of (fun j hj => ((hacc5.more _).own_ge j hj).2) ho2) ((hkept.add _).grew hg2 (fun j hj => (hacc4.own_ge j hj).1))
    · have h4 : ¬ i < b.length := by have := of_decide_eq_false h; omega
      rw [splF, if_neg h4] at heq
      rw [heq]
      refine PW.exit (PW.seq ?_); refine PW.rg rfl fun K hK => ?_; simp (disch := omega) only [go_sem, ↓reduceIte, reduceCtorEq, pappend, plen]; refine hK _ _ ?_; clear hK K
      exact PW.ret ⟨_, rfl, Fin.give hkept (Frz.tup2 (Frz.acc hacc4 (fc_still _)) (Frz.acc hacc5 (dc_still _)))⟩

end Go.Proofs.Ytdeehmdkpdgpfaa.Sc
