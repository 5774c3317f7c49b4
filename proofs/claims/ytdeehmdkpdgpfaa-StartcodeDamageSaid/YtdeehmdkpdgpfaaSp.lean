/-
  Contracts of the laws StartcodeBack, StartcodeResync, StartcodeDamage.
-/
import Derived.Test.YtdeehmdkpdgpfaaSo
namespace Go.Proofs.Ytdeehmdkpdgpfaa.Sc
set_option linter.all false
set_option linter.unusedVariables false
set_option linter.unusedSimpArgs false
open Pm Ty Go.RowKit

theorem ub_fz (b : List UInt8) (H K : Heap) : Fz H.length (H ++ uB b :: K) (ub H.length b) (bv b) :=
  Fz.mslC (e := 5) (xs := bs b) (Nat.le_refl _) (by simp [uB]) (by simp [length_bs]) (FzC.refl (bs_scoped _ _))
theorem fcv_scoped (n : Nat) (l : List Fnd) : Scoped n (.slice (fc l) l.length false) := sl_scoped (fc_scoped n l)
theorem jB_len (pads : List Int) {us : List (Int × List UInt8)} (h : formedB us = true) : (jB pads us).length ≤ 4400 ∧ (jF pads us).length = us.length := by
  have h1 := jS_len pads h us.length (Nat.le_refl _)
  have h2 := (formed_at h).1
  exact ⟨by unfold jB; omega, by rw [jF, fixN_len, h1.2]⟩

theorem law_back (us : List (Int × List UInt8)) (pads : List Int) (g f : Bool) (H : Heap) (hp : pads.length ≤ 9223372036854775807) :
    CallOk Try.prog 8 [.slice (uc false us) us.length g, .slice (ic pads) pads.length f] H (.bool true) H := by
  refine CallOk.body (F0 := [(0, .slice (uc false us) us.length g), (1, .slice (ic pads) pads.length f)]) Try.func8 rfl Try.ntmps8 Try.results8 rfl (by kernel_rfl) rfl ?_
  refine PW.seq ?_; refine PW.rg rfl fun K hK => ?_; simp (disch := omega) only [go_sem, ↓reduceIte, reduceCtorEq, pappend, plen]; refine hK _ _ ?_; clear hK K
  refine PW.seq ?_; refine PW.seq ?_; refine PW.rg rfl fun K hK => ?_; simp (disch := omega) only [go_sem, ↓reduceIte, reduceCtorEq, pappend, plen]; refine VC.call (formed_ok us false g _) rfl rfl ?_; simp (disch := omega) only [go_sem, ↓reduceIte, reduceCtorEq, pappend, plen]; refine hK _ _ ?_; clear hK K
  refine PW.cond (t := _) rfl (fun h => ?_) (fun h => ?_)
  · refine PW.seq ?_; refine PW.rg rfl fun K hK => ?_; simp (disch := omega) only [go_sem, ↓reduceIte, reduceCtorEq, pappend, plen]; refine VC.call (awake_ok _) rfl rfl ?_; simp (disch := omega) only [go_sem, ↓reduceIte, reduceCtorEq, pappend, plen]; refine hK _ _ ?_; clear hK K
    exact PW.ret ⟨_, rfl, Fin.now⟩
  have hf : formedB us = true := by simpa using h
  obtain ⟨hbl, hfl⟩ := jB_len pads hf
  refine PW.skip ?_
  refine PW.seq ?_; refine PW.rg rfl fun K hK => ?_; simp (disch := omega) only [go_sem, ↓reduceIte, reduceCtorEq, pappend, plen]; refine VC.call (joined_ok us pads g f _ hf hp) rfl rfl ?_; simp (disch := omega) only [go_sem, ↓reduceIte, reduceCtorEq, pappend, plen]; refine hK _ _ ?_; clear hK K
  refine PW.seq ?_; refine PW.seq ?_; refine PW.rg rfl fun K hK => ?_; simp (disch := omega) only [go_sem, ↓reduceIte, reduceCtorEq, pappend, plen]; refine hK _ _ ?_; clear hK K
  refine PW.cond (t := _) rfl (fun h => ?_) (fun h => ?_)
  · cases h
  refine PW.skip ?_
  refine PW.view (Vs.trim (F1 := [(5, bv (jB pads us)), (6, .slice (fc (jF pads us)) (jF pads us).length false)]) (H1 := H) (fun h => h) (Nat.le_refl _) rfl ⟨ub_fz _ _ _, .id (fcv_scoped _ _), trivial⟩) ?_
  have hs := spl_joined pads us hf
  have hsp := split_ok (jB pads us) false H (by omega)
  rw [hs] at hsp
  refine PW.seq ?_; refine PW.rg rfl fun K hK => ?_; simp (disch := omega) only [go_sem, ↓reduceIte, reduceCtorEq, pappend, plen]; refine VC.call (hsp) rfl rfl ?_; simp (disch := omega) only [go_sem, ↓reduceIte, reduceCtorEq, pappend, plen]; refine hK _ _ ?_; clear hK K
  refine PW.seq (PW.seq (PW.rgv [6, 8] 38 (.bool false) rfl ?_ ?_))
  · simp (disch := omega) only [go_sem, ↓reduceIte, reduceCtorEq, pappend, plen]
    try simp [dc]
  refine PW.cond (t := _) rfl (fun h => by cases h) (fun _ => PW.skip ?_)
  refine PW.seq ?_; refine PW.seq ?_; refine PW.rg rfl fun K hK => ?_; simp (disch := omega) only [go_sem, ↓reduceIte, reduceCtorEq, pappend, plen]; refine hK _ _ ?_; clear hK K
  refine PW.block (PW.loop ?_)
  suffices hloop : ∀ (k : Nat), k ≤ (jF pads us).length → PL Try.prog _ _ [(6, .slice (fc (jF pads us)) (jF pads us).length false), (8, .slice (fc (jF pads us)) (jF pads us).length false), (10, .int .i64 (k : Int))] H _ by
    exact PL.at [6, 8, 10] (hloop 0 (Nat.zero_le _)) rfl rfl
  intro k hk
  have h20 := (formed_at hf).1
  induction hm : (jF pads us).length - k using Nat.strongRecOn generalizing k with
  | _ n ih =>
    refine PL.round (PW.seq (PW.seq ?_)); refine PW.rg rfl fun K hK => ?_; simp (disch := omega) only [go_sem, ↓reduceIte, reduceCtorEq, pappend, plen]; refine hK _ _ ?_; clear hK K
    refine PW.cond (t := _) rfl (fun h => ?_) (fun h => ?_)
    · have h4 : k < (jF pads us).length := by have := of_decide_eq_true h; omega
      have hsame := same2_ok (fn (jF pads us) k) (fn (jF pads us) k) H
      rw [sameF_self] at hsame
      refine PW.skip (PW.seq (PW.block (PW.seq ?_))); refine PW.draw mix (by kernel_rfl) fun K hK => ?_; simp (disch := omega) only [go_sem, ↓reduceIte, reduceCtorEq, pappend, plen, fc_len, fc_take]; refine VCd.call (hsame) rfl rfl ?_; simp (disch := omega) only [go_sem, ↓reduceIte, reduceCtorEq, pappend, plen]; refine hK _ _ ?_; clear hK K
      refine PW.cond (t := _) rfl (fun h => by cases h) (fun _ => PW.skip ?_)
      refine PW.rg rfl fun K hK => ?_; simp (disch := omega) only [go_sem, ↓reduceIte, reduceCtorEq, pappend, plen]; refine hK _ _ ?_; clear hK K
      exact PL.at [6, 8, 10] (ih ((jF pads us).length - (k + 1)) (by omega) (k + 1) (by omega) rfl) rfl rfl
    · refine PW.exit ?_
      refine PW.seq ?_; refine PW.rg rfl fun K hK => ?_; simp (disch := omega) only [go_sem, ↓reduceIte, reduceCtorEq, pappend, plen]; refine VC.call (awake_ok _) rfl rfl ?_; simp (disch := omega) only [go_sem, ↓reduceIte, reduceCtorEq, pappend, plen]; refine hK _ _ ?_; clear hK K
      exact PW.ret ⟨_, rfl, Fin.now⟩

theorem fnds_bd : ∀ (l : List ((Int × List UInt8) × Nat)) (a : Nat) (y : Fnd), y ∈ fnds a l → y.fr ≤ a + (W l).length ∧ y.to ≤ a + (W l).length ∧ y.nx ≤ a + (W l).length
  | [], a, y, h => by cases h
  | (u, z) :: r, a, y, h => by
    simp only [fnds, List.mem_cons] at h
    have hl : (W ((u, z) :: r)).length = (cd u).length + z + (W r).length := by simp [W, zs]; omega
    rcases h with rfl | h
    · simp only [hl]; omega
    · have := fnds_bd r _ y h
      omega
theorem fc_dropU (U N : List Fnd) (n : Nat) (h : n = N.length) : ((fc (U ++ N)).drop (U.length * 5)).take (n * 5) = fc N := by
  rw [fc_append, List.drop_append, List.drop_of_length_le (by rw [fc_len]; exact Nat.le_refl _), fc_len, Nat.sub_self, List.drop_zero, List.nil_append, List.take_of_length_le (by rw [fc_len]; omega)]

theorem law_resync (x : List UInt8) (us : List (Int × List UInt8)) (g f : Bool) (H : Heap) :
    CallOk Try.prog 9 [.slice (bs x) x.length f, .slice (uc false us) us.length g] H (.bool true) H := by
  refine CallOk.body (F0 := [(0, .slice (bs x) x.length f), (1, .slice (uc false us) us.length g)]) Try.func9 rfl Try.ntmps9 Try.results9 rfl (by kernel_rfl) rfl ?_
  refine PW.seq ?_; refine PW.rg rfl fun K hK => ?_; simp (disch := omega) only [go_sem, ↓reduceIte, reduceCtorEq, pappend, plen]; refine hK _ _ ?_; clear hK K
  refine PW.seq ?_
  by_cases h1 : 200 < x.length
  · refine PW.seq ?_; refine PW.rg rfl fun K hK => ?_; simp (disch := omega) only [go_sem, ↓reduceIte, reduceCtorEq, pappend, plen]; refine hK _ _ ?_; clear hK K
    refine PW.cond (t := _) rfl (fun _ => ?_) (fun h => by cases h)
    refine PW.seq ?_; refine PW.rg rfl fun K hK => ?_; simp (disch := omega) only [go_sem, ↓reduceIte, reduceCtorEq, pappend, plen]; refine VC.call (awake_ok _) rfl rfl ?_; simp (disch := omega) only [go_sem, ↓reduceIte, reduceCtorEq, pappend, plen]; refine hK _ _ ?_; clear hK K
    exact PW.ret ⟨_, rfl, Fin.now⟩
  by_cases h2 : us.length = 0
  · refine PW.seq ?_; refine PW.rg rfl fun K hK => ?_; simp (disch := omega) only [go_sem, ↓reduceIte, reduceCtorEq, pappend, plen]; refine hK _ _ ?_; clear hK K
    refine PW.cond (t := _) rfl (fun _ => ?_) (fun h => by cases h)
    refine PW.seq ?_; refine PW.rg rfl fun K hK => ?_; simp (disch := omega) only [go_sem, ↓reduceIte, reduceCtorEq, pappend, plen]; refine VC.call (awake_ok _) rfl rfl ?_; simp (disch := omega) only [go_sem, ↓reduceIte, reduceCtorEq, pappend, plen]; refine hK _ _ ?_; clear hK K
    exact PW.ret ⟨_, rfl, Fin.now⟩
  refine PW.seq ?_; refine PW.rg rfl fun K hK => ?_; simp (disch := omega) only [go_sem, ↓reduceIte, reduceCtorEq, pappend, plen]; refine VC.call (formed_ok us false g _) rfl rfl ?_; simp (disch := omega) only [go_sem, ↓reduceIte, reduceCtorEq, pappend, plen]; refine hK _ _ ?_; clear hK K
  refine PW.cond (t := _) rfl (fun h => ?_) (fun h => ?_)
  · refine PW.seq ?_; refine PW.rg rfl fun K hK => ?_; simp (disch := omega) only [go_sem, ↓reduceIte, reduceCtorEq, pappend, plen]; refine VC.call (awake_ok _) rfl rfl ?_; simp (disch := omega) only [go_sem, ↓reduceIte, reduceCtorEq, pappend, plen]; refine hK _ _ ?_; clear hK K
    exact PW.ret ⟨_, rfl, Fin.now⟩
  have hf : formedB us = true := by simpa using h
  have h20 := (formed_at hf).1
  obtain ⟨hbl, hfl⟩ := jB_len [] hf
  refine PW.skip ?_
  refine PW.seq ?_; refine PW.rg rfl fun K hK => ?_; simp (disch := omega) only [go_sem, ↓reduceIte, reduceCtorEq, pappend, plen]; refine VC.call (joined_ok us [] g true _ hf (by simp)) rfl rfl ?_; simp (disch := omega) only [go_sem, ↓reduceIte, reduceCtorEq, pappend, plen]; refine hK _ _ ?_; clear hK K
  refine PW.seq ?_; refine PW.seq ?_; refine PW.rg rfl fun K hK => ?_; simp (disch := omega) only [go_sem, ↓reduceIte, reduceCtorEq, pappend, plen]; refine hK _ _ ?_; clear hK K
  refine PW.cond (t := _) rfl (fun h => ?_) (fun h => ?_)
  · cases h
  refine PW.skip ?_
  refine PW.view (Vs.trim (F1 := [(0, .slice (bs x) x.length f), (5, bv (jB [] us)), (6, .slice (fc (jF [] us)) (jF [] us).length false)]) (H1 := H) (fun h => h) (Nat.le_refl _) rfl ⟨.id (sl_scoped (bs_scoped _ _)), ub_fz _ _ _, .id (fcv_scoped _ _), trivial⟩) ?_
  have hok := map_oks (formed_oks hf)
  obtain ⟨U, D, hs⟩ := spl_resync x (us.map fun u => (u, 0)) hok (by intro e; rw [List.map_eq_nil_iff] at e; rw [e] at h2; exact h2 rfl)
  rw [← jB_nil] at hs
  have hsh := fnds_shift x.length (us.map fun u => (u, 0)) 0
  rw [Nat.zero_add, ← jF_nil] at hsh
  rw [hsh] at hs
  have hbpos : 0 < (jB [] us).length := by
    rw [jB_nil]; have := W_len hok; simp at this; omega
  have hbd : ∀ k, k < (jF [] us).length → (fn (jF [] us) k).fr ≤ 4400 ∧ (fn (jF [] us) k).to ≤ 4400 ∧ (fn (jF [] us) k).nx ≤ 4400 := fun k hk => by
    have := fnds_bd (us.map fun u => (u, 0)) 0 (fn (jF [] us) k) (by rw [← jF_nil]; simp [fn, hk])
    rw [← jB_nil] at this
    omega
  generalize jB [] us = b at *
  generalize jF [] us = L at *
  have hN : (L.map (shift x.length)).length = L.length := List.length_map _
  have hNk : ∀ k, k < L.length → fn (L.map (shift x.length)) k = shift x.length (fn L k) := fun k hk => by simp [fn, hk]
  generalize L.map (shift x.length) = N at *
  have hsp := split_ok (x ++ b) false (H ++ [⟨5, (bs (x ++ b)).length + 1, []⟩]) (by simp; omega)
  rw [hs] at hsp
  have hsp2 : CallOk Try.prog 20 [ub H.length (x ++ b)] (H ++ [uB (x ++ b)]) (.tup [.slice (fc (U ++ N)) (U ++ N).length false, .slice (dc D) D.length false]) (H ++ [⟨5, (bs (x ++ b)).length + 1, []⟩]) :=
    CallOk.frz1 (args' := [.slice (bs (x ++ b)) (x ++ b).length false]) (id := H.length) (k := uB (x ++ b)) (by simp) (by simpa [hs0, uB] using hsp) ⟨.inr ⟨_, _, _, rfl, by simp [uB, length_bs], rfl⟩, trivial⟩
  simp only [ub, uB, length_bs] at hsp2
  have hsp3 : CallOk Try.prog 20 [.msl H.length (bs x ++ bs b).length 0 (x.length + b.length) 1 true] (H ++ [⟨5, (bs x ++ bs b).length, bs x ++ bs b⟩]) (.tup [.slice (fc (U ++ N)) (U ++ N).length false, .slice (dc D) D.length false]) (H ++ [⟨5, (x ++ b).length + 1, []⟩]) := by
    rw [bs_append] at hsp2
    simpa [length_bs] using hsp2
  have hUN : (U ++ N).length = U.length + L.length := by simp [hN]
  have hUl : U.length ≤ 1000000 := by
    have := (spl_len (x ++ b)).1
    rw [hs] at this
    simp only [List.length_append] at this
    omega
  refine PW.to [0, 6, 8] [(0, .slice (bs x) x.length f), (6, .slice (fc L) L.length false), (8, .slice (fc (U ++ N)) (U ++ N).length false)] (H ++ [⟨5, (x ++ b).length + 1, []⟩]) ?_ ?_
  · by_cases hx : x = []
    · subst hx
      simp only [List.nil_append] at hsp2
      refine PW.rg rfl fun K hK => ?_; simp (disch := omega) only [go_sem, ↓reduceIte, reduceCtorEq, pappend, plen, bv, length_bs, bs_nil]; refine VC.call (hsp2) rfl rfl ?_; simp (disch := omega) only [go_sem, ↓reduceIte, reduceCtorEq, pappend, plen]; refine hK _ _ ?_; clear hK K
      exact ⟨rfl, rfl⟩
    · have hxl : 0 < x.length := List.length_pos_iff.2 hx
      refine PW.rg rfl fun K hK => ?_; simp (disch := omega) only [go_sem, ↓reduceIte, reduceCtorEq, pappend, plen, bv, length_bs]; refine VC.call (hsp3) rfl rfl ?_; simp (disch := omega) only [go_sem, ↓reduceIte, reduceCtorEq, pappend, plen]; refine hK _ _ ?_; clear hK K
      exact ⟨rfl, rfl⟩
  refine PW.view (Vs.trim (F1 := [(0, .slice (bs x) x.length f), (6, .slice (fc L) L.length false), (8, .slice (fc (U ++ N)) (U ++ N).length false)]) (H1 := H) (fun h => h) (Nat.le_refl _) rfl ⟨.id (sl_scoped (bs_scoped _ _)), .id (fcv_scoped _ _), .id (fcv_scoped _ _), trivial⟩) ?_
  refine PW.seq ?_; refine PW.seq ?_; refine PW.rg rfl fun K hK => ?_; simp (disch := omega) only [go_sem, ↓reduceIte, reduceCtorEq, pappend, plen, hUN]; refine hK _ _ ?_; clear hK K
  refine PW.cond (t := _) rfl (fun h => ?_) (fun h => ?_)
  · cases h
  refine PW.skip ?_
  have e5 : ((U.length + L.length : Nat) : Int) - (L.length : Nat) = (U.length : Nat) := by omega
  have e6 : U.length + L.length - U.length = L.length := by omega
  have e7 := fc_dropU U N L.length hN.symm
  refine PW.seq ?_; refine PW.rg rfl fun K hK => ?_; simp (disch := omega) only [go_sem, ↓reduceIte, reduceCtorEq, pappend, plen, hUN, e5, e6, e7, fc_len]; refine hK _ _ ?_; clear hK K
  refine PW.seq ?_; refine PW.seq ?_; refine PW.rg rfl fun K hK => ?_; simp (disch := omega) only [go_sem, ↓reduceIte, reduceCtorEq, pappend, plen]; refine hK _ _ ?_; clear hK K
  refine PW.block (PW.loop ?_)
  suffices hloop : ∀ (k : Nat), k ≤ L.length → PL Try.prog _ _ [(0, .slice (bs x) x.length f), (6, .slice (fc L) L.length false), (8, .slice (fc N) L.length false), (10, .int .i64 (k : Int))] H _ by
    exact PL.at [0, 6, 8, 10] (hloop 0 (Nat.zero_le _)) rfl rfl
  intro k hk
  induction hm : L.length - k using Nat.strongRecOn generalizing k with
  | _ n ih =>
    refine PL.round (PW.seq (PW.seq ?_)); refine PW.rg rfl fun K hK => ?_; simp (disch := omega) only [go_sem, ↓reduceIte, reduceCtorEq, pappend, plen]; refine hK _ _ ?_; clear hK K
    refine PW.cond (t := _) rfl (fun h => ?_) (fun h => ?_)
    · have h4 : k < L.length := by have := of_decide_eq_true h; omega
      have hsame := fun H' => same2_ok (fn N k) (shift x.length (fn L k)) H'
      rw [hNk k h4, sameF_self] at hsame
      have hfr := hbd k h4
      refine PW.skip (PW.seq (PW.block ?_))
      refine PW.seq ?_; refine PW.rg rfl fun K hK => ?_; simp (disch := omega) only [go_sem, ↓reduceIte, reduceCtorEq, pappend, plen, fc_len, fc_take, fd, bv]; refine hK _ _ ?_; clear hK K
      refine PW.seq ?_; refine PW.rg rfl fun K hK => ?_; simp (disch := omega) only [go_sem, ↓reduceIte, reduceCtorEq, pappend, plen, length_bs]; refine hK _ _ ?_; clear hK K
      refine PW.seq ?_; refine PW.draw mix (by kernel_rfl) fun K hK => ?_; simp (disch := omega) only [go_sem, ↓reduceIte, reduceCtorEq, pappend, plen, fc_len, fc_take, hNk]; refine VCd.call (hsame _) rfl rfl ?_; simp (disch := omega) only [go_sem, ↓reduceIte, reduceCtorEq, pappend, plen]; refine hK _ _ ?_; clear hK K
      refine PW.cond (t := _) rfl (fun h => by cases h) (fun _ => PW.skip ?_)
      refine PW.rg rfl fun K hK => ?_; simp (disch := omega) only [go_sem, ↓reduceIte, reduceCtorEq, pappend, plen]; refine hK _ _ ?_; clear hK K
      refine PL.view (Vs.trim (F1 := [(0, .slice (bs x) x.length f), (6, .slice (fc L) L.length false), (8, .slice (fc N) L.length false), (10, .int .i64 ((k + 1 : Nat) : Int))]) (H1 := H) (fun h => h) (Nat.le_refl _) rfl
        ⟨.id (sl_scoped (bs_scoped _ _)), .id (fcv_scoped _ _), .id (sl_scoped (fc_scoped _ _)), .id (.int _ _), trivial⟩) ?_
      exact ih (L.length - (k + 1)) (by omega) (k + 1) (by omega) rfl
    · refine PW.exit ?_
      refine PW.seq ?_; refine PW.rg rfl fun K hK => ?_; simp (disch := omega) only [go_sem, ↓reduceIte, reduceCtorEq, pappend, plen]; refine VC.call (awake_ok _) rfl rfl ?_; simp (disch := omega) only [go_sem, ↓reduceIte, reduceCtorEq, pappend, plen]; refine hK _ _ ?_; clear hK K
      exact PW.ret ⟨_, rfl, Fin.now⟩

theorem fc_3 (l : List Fnd) (i : Nat) (h : i < l.length) : (fc l)[i * 5 + 3]? = some (.int .i64 (fn l i).to) := by
  have := congrArg (fun l => l[3]?) (fc_take l i h)
  simp only [fd] at this
  rw [List.getElem?_take, if_pos (by omega), List.getElem?_drop] at this
  simpa using this
theorem bs_set (b : List UInt8) (i : Nat) (v : UInt8) : (bs b).set i (.int .u8 (v.toNat : Int)) = bs (b.set i v) := by
  simp [bs, List.map_set]
theorem u8_wrap (n : Int) : ∃ v : UInt8, IntKind.u8.wrap n = (v.toNat : Int) := by
  have h : 0 ≤ IntKind.u8.wrap n ∧ IntKind.u8.wrap n ≤ 255 := by
    simp [IntKind.wrap, IntKind.bits, IntKind.signed]
    omega
  exact ⟨UInt8.ofNat (IntKind.u8.wrap n).toNat, by simp; omega⟩
/-- Is it among the first J? -/
def anyS (G : List Fnd) (w : Fnd) (J : Nat) : Bool := (G.take J).any fun g => sameF g w
theorem anyS_succ (G : List Fnd) (w : Fnd) (J : Nat) (h : J < G.length) : anyS G w (J + 1) = (anyS G w J || sameF (fn G J) w) := by
  unfold anyS
  rw [List.take_succ_eq_append_getElem h, List.any_append]
  simp [fn, h]
theorem anyS_mem (G : List Fnd) (w : Fnd) (h : w ∈ G) : anyS G w G.length = true := by
  unfold anyS
  rw [List.take_length, List.any_eq_true]
  exact ⟨w, h, sameF_self w⟩

end Go.Proofs.Ytdeehmdkpdgpfaa.Sc
