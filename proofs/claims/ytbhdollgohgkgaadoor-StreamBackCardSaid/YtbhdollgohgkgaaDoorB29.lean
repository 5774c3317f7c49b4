/-
  Parts of the proof. No condition.
-/
import Derived.Test.YtbhdollgohgkgaaDoorB13
import Derived.Test.YtbhdollgohgkgaaDoorB22
import Derived.Test.YtbhdollgohgkgaaDoorB28
import Derived.Test.YtbhdollgohgkgaaDoorB12
import Derived.Test.YtbhdollgohgkgaaDoorB15
namespace Go.Proofs.YtbhdollgohgkgaaDoor.Sc
set_option linter.all false
set_option linter.unusedVariables false
set_option linter.unusedSimpArgs false
open Pm Ty S3 Go.RowKit

/-! ### what is written is small -/
theorem fndW_p : ∀ (l : List ((Int × List UInt8) × Nat)) (a : Nat), ∀ f ∈ fndW a l, ∃ w ∈ l, f.p = w.1.2
  | [], a, f, hf => by simp [fndW] at hf
  | (u, z) :: r, a, f, hf => by
    rw [fndW] at hf
    rcases List.mem_cons.1 hf with rfl | hf
    · exact ⟨(u, z), by simp, rfl⟩
    · obtain ⟨w, hw, e⟩ := fndW_p r _ f hf
      exact ⟨w, List.mem_cons_of_mem _ hw, e⟩
theorem zPad_m (z : Nat) : ∀ (l : List (Int × List UInt8)), ∀ w ∈ zPad z l, w.1 ∈ l
  | [], w, hw => by simp [zPad] at hw
  | [u], w, hw => by
    simp only [zPad, List.mem_singleton] at hw
    subst hw; simp
  | u :: v :: r, w, hw => by
    rw [zPad] at hw
    rcases List.mem_cons.1 hw with rfl | hw
    · simp
    · exact List.mem_cons_of_mem _ (zPad_m z (v :: r) w hw)
theorem hdU_len (x : It) (hs : SqOk x.s) : (hdU x).2.1.length ≤ 1000 := by
  unfold hdU
  split
  · unfold putS
    split
    · show (pk (sbits x.s ++ [true])).length ≤ _
      rw [pk_len]
      have h1 := mxb_len x.s.ia dIn
      have h2 := mxb_len x.s.ie dIt
      simp [sbits, vbits_len]; omega
    · simp
  · split
    · unfold putG
      split
      · show (pk (gbits x.gc x.gb x.gt ++ [true])).length ≤ _
        rw [pk_len]
        simp [gbits, vbits_len]
      · simp
    · split
      · unfold putH
        split
        · show (pk (hbits x.p ++ [true])).length ≤ _
          rw [pk_len]
          simp [hbits, vbits_len]
        · simp
      · simp
theorem fnd_small {l : List It} (hs : ∀ x ∈ l, SqOk x.s) (hlt : ltB l = true) (a : Nat) : ∀ f ∈ fndW a (l.flatMap unZ), f.p.length ≤ 1000000 := fun f hf => by
  obtain ⟨w, hw, e⟩ := fndW_p _ _ f hf
  obtain ⟨x, hx, hw⟩ := List.mem_flatMap.1 hw
  have hu := zPad_m _ _ w hw
  rw [e]
  unfold ltB at hlt
  rw [Bool.and_eq_true] at hlt
  have hi := List.all_eq_true.1 hlt.2 x hx
  unfold ltI at hi
  simp only [Bool.and_eq_true, decide_eq_true_eq] at hi
  unfold unWs at hu
  rcases List.mem_cons.1 hu with hu | hu
  · have := hdU_len x (hs x hx)
    rw [hu]; show (hdU x).2.1.length ≤ _; omega
  · split at hu
    · rcases List.mem_append.1 hu with hu | hu
      · obtain ⟨v, hv, e2⟩ := List.mem_map.1 hu
        have := of_decide_eq_true (List.all_eq_true.1 hi.2.1 v hv)
        rw [← e2]; simp [usU]; omega
      · have := of_decide_eq_true (List.all_eq_true.1 hi.2.2 _ hu)
        omega
    · cases hu
theorem ltsB {l : List It} (hok : ∀ x ∈ l, ItOk x) (h : ltB l = true) : Lts l ∧ l.length ≤ 60 := by
  unfold ltB at h
  rw [Bool.and_eq_true, decide_eq_true_eq] at h
  refine ⟨⟨by omega, fun x hx => ?_⟩, h.1⟩
  have := List.all_eq_true.1 h.2 x hx
  unfold ltI at this
  simp only [Bool.and_eq_true, decide_eq_true_eq] at this
  exact ⟨hok x hx, by omega, by omega, fun u hu => by have := of_decide_eq_true (List.all_eq_true.1 this.2.2 u hu); omega⟩
theorem nrm_s {x : It} (h : SqOk x.s) : SqOk (nrm x).s := by
  unfold nrm
  split
  · exact h
  · split
    · exact zSq_ok
    · split <;> exact zSq_ok
theorem nrm_smi {x : It} (h : 1 ≤ x.k ∧ x.k ≤ 4) : SmI x (nrm x) := by
  unfold nrm
  by_cases k1 : x.k = 1
  · rw [if_pos k1]; exact ⟨k1.symm, rfl, fun _ => rfl, fun h => by omega, fun h => by omega⟩
  rw [if_neg k1]
  by_cases k2 : x.k = 2
  · rw [if_pos k2]; exact ⟨k2.symm, rfl, fun h => by omega, fun _ => ⟨rfl, rfl, rfl⟩, fun h => by omega⟩
  rw [if_neg k2]
  by_cases k3 : x.k = 3
  · rw [if_pos k3]; exact ⟨k3.symm, rfl, fun h => by omega, fun h => by omega, fun _ => ⟨rfl, rfl, rfl⟩⟩
  rw [if_neg k3]
  exact ⟨by show (4 : Int) = x.k; omega, rfl, fun h => by omega, fun h => by omega, fun h => by omega⟩

set_option maxHeartbeats 1600000 in
theorem normal_ok (x : It) (H : Heap) (hx : SqOk x.s) (h1 : x.U.length ≤ 10000) (h2 : x.us.length ≤ 10000) : CallOk Tryd.prog 5 [.agg (itc x)] H (.bool ((x.k == 3) || decide (x.U.length + x.us.length = 0))) H := by
  have cx := itc_cell x
  have lx := itc_len x hx
  have x0 := itc_0 x
  have xu := itc_u x hx
  have xs := itc_us x hx
  have ul := usr_l x.U
  have ql := uq_len x.us
  refine CallOk.body (F0 := [(0, .agg (itc x))]) Tryd.func5 rfl Tryd.ntmps5 Tryd.results5 rfl (by kernel_rfl) rfl ?_
  (repeat refine PW.seq ?_); refine PW.rg rfl fun K hK => ?_; simp (maxSteps := 3000000) (disch := omega) only [go_sem, ↓reduceIte, reduceCtorEq, pappend, plen, cx]; refine hK _ _ ?_; clear hK K
  by_cases k3 : x.k = 3
  · have b3 : (x.k == 3) = true := by simp [k3]
    (repeat refine PW.seq ?_); refine PW.rg rfl fun K hK => ?_; simp (maxSteps := 3000000) (disch := omega) only [go_sem, ↓reduceIte, reduceCtorEq, pappend, plen, x0, lx, b3]; refine hK _ _ ?_; clear hK K
    refine PW.ret ⟨.bool true, by simp (maxSteps := 3000000) (disch := omega) only [go_sem, ↓reduceIte, reduceCtorEq, pappend, plen, presults, presult, List.mapM_cons, List.mapM_nil, Option.pure_def, Option.bind_eq_bind, Option.bind_some, Array.toList], ?_⟩
    refine Fin.base (.id' ?_ (.bool _))
    rw [b3]; rfl
  · have b3 : (x.k == 3) = false := by simp [k3]
    have d : ∀ a b : Nat, (((a : Int) + (b : Int)) == 0) = decide (a + b = 0) := fun a b => by rw [Bool.eq_iff_iff, beq_iff_eq, decide_eq_true_iff]; omega
    have w : IntKind.i64.wrap ((x.U.length : Int) + (x.us.length : Int)) = (x.U.length : Int) + (x.us.length : Int) := w64 _ (by omega)
    (repeat refine PW.seq ?_); refine PW.rg rfl fun K hK => ?_; simp (maxSteps := 3000000) (disch := omega) only [go_sem, ↓reduceIte, reduceCtorEq, pappend, plen, x0, lx, b3, xu, xs, usr, ul, ql, w, d]; refine hK _ _ ?_; clear hK K
    refine PW.ret ⟨.bool (decide (x.U.length + x.us.length = 0)), by simp (maxSteps := 3000000) (disch := omega) only [go_sem, ↓reduceIte, reduceCtorEq, pappend, plen, presults, presult, List.mapM_cons, List.mapM_nil, Option.pure_def, Option.bind_eq_bind, Option.bind_some, Array.toList], ?_⟩
    refine Fin.base (.id' ?_ (.bool _))
    rw [b3]; rfl

set_option maxHeartbeats 8000000 in
set_option maxRecDepth 100000 in
theorem law_back (l : List It) (f : Bool) (H : Heap) (hok : ∀ x ∈ l, ItOk x) : CallOk Tryd.prog 3 [.slice (itL l) l.length f] H (.bool true) H := by
  have hs : ∀ x ∈ l, SqOk x.s := fun x hx => (hok x hx).s
  have ln := itL_len l hs
  have lo := fun K => light12 l f K hs
  refine CallOk.body (F0 := [(0, .slice (itL l) l.length f)]) Tryd.func3 rfl Tryd.ntmps3 Tryd.results3 rfl (by kernel_rfl) rfl ?_
  (repeat refine PW.seq ?_); refine PW.rg rfl fun K hK => ?_; simp (maxSteps := 3000000) (disch := omega) only [go_sem, ↓reduceIte, reduceCtorEq, pappend, plen]; refine hK _ _ ?_; clear hK K
  (repeat refine PW.seq ?_); refine PW.rg rfl fun K hK => ?_; simp (maxSteps := 3000000) (disch := omega) only [go_sem, ↓reduceIte, reduceCtorEq, pappend, plen]; refine VCx.call (lo _) rfl ?_; simp (maxSteps := 3000000) (disch := omega) only [go_sem, ↓reduceIte, reduceCtorEq, pappend, plen]; refine hK _ _ ?_; clear hK K
  cases hlt : ltB l with
  | false =>
    (repeat refine PW.seq ?_); refine PW.cond (t := _) rfl (fun h => ?_) (fun h => ?_)
    rotate_left
    · cases h
    (repeat refine PW.seq ?_); refine PW.rg rfl fun K hK => ?_; simp (maxSteps := 3000000) (disch := omega) only [go_sem, ↓reduceIte, reduceCtorEq, pappend, plen]; refine hK _ _ ?_; clear hK K
    refine PW.ret ⟨.bool true, by simp (maxSteps := 3000000) (disch := omega) only [go_sem, ↓reduceIte, reduceCtorEq, pappend, plen, presults, presult, List.mapM_cons, List.mapM_nil, Option.pure_def, Option.bind_eq_bind, Option.bind_some, Array.toList], ?_⟩
    exact Fin.now
  | true =>
  (repeat refine PW.seq ?_); refine PW.cond (t := _) rfl (fun h => ?_) (fun h => ?_)
  · cases h
  refine PW.skip ?_
  obtain ⟨hL, h60⟩ := ltsB hok hlt
  (repeat refine PW.seq ?_); refine PW.rg rfl fun K hK => ?_; simp (maxSteps := 3000000) (disch := omega) only [go_sem, ↓reduceIte, reduceCtorEq, pappend, plen]; refine hK _ _ ?_; clear hK K
  (repeat refine PW.seq ?_); refine PW.block (PW.loop ?_)
  suffices hl1 : ∀ j : Nat, j ≤ l.length → PL Tryd.prog _ _ [(0, .slice (itL l) l.length f), (3, .int .i64 (j : Int))] H _ by
    exact PL.at [0, 3] (hl1 0 (by omega)) rfl rfl
  refine cnt l.length (fun j hj ih => ?_) ?_
  · have ct := lt_t hj
    have ea := itL_at l hs j hj
    have hi := hL.i l[j] (List.getElem_mem hj)
    generalize l[j] = x at *
    have no := fun K => normal_ok x K hi.ok.s hi.U hi.us
    refine PL.round ?_; (repeat refine PW.seq ?_); refine PW.rg rfl fun K hK => ?_; simp (maxSteps := 3000000) (disch := omega) only [go_sem, ↓reduceIte, reduceCtorEq, pappend, plen, ct, ln]; refine hK _ _ ?_; clear hK K; (repeat refine PW.seq ?_); refine PW.cond (t := _) rfl (fun h => ?_) (fun h => ?_)
    rotate_left
    · cases h
    refine PW.skip ?_; (repeat refine PW.seq ?_); refine PW.block ?_
    (repeat refine PW.seq ?_); refine PW.rg rfl fun K hK => ?_; simp (maxSteps := 3000000) (disch := omega) only [go_sem, ↓reduceIte, reduceCtorEq, pappend, plen, ln, ea]; refine VCx.call (no _) rfl ?_; simp (maxSteps := 3000000) (disch := omega) only [go_sem, ↓reduceIte, reduceCtorEq, pappend, plen]; refine hK _ _ ?_; clear hK K
    cases hn : (x.k == 3) || decide (x.U.length + x.us.length = 0) with
    | false =>
      (repeat refine PW.seq ?_); refine PW.cond (t := _) rfl (fun h => ?_) (fun h => ?_)
      rotate_left
      · cases h
      (repeat refine PW.seq ?_); refine PW.rg rfl fun K hK => ?_; simp (maxSteps := 3000000) (disch := omega) only [go_sem, ↓reduceIte, reduceCtorEq, pappend, plen]; refine VCx.call (awake12 _) rfl ?_; simp (maxSteps := 3000000) (disch := omega) only [go_sem, ↓reduceIte, reduceCtorEq, pappend, plen]; refine hK _ _ ?_; clear hK K
      refine PW.ret ⟨.bool true, by simp (maxSteps := 3000000) (disch := omega) only [go_sem, ↓reduceIte, reduceCtorEq, pappend, plen, presults, presult, List.mapM_cons, List.mapM_nil, Option.pure_def, Option.bind_eq_bind, Option.bind_some, Array.toList], ?_⟩
      exact Fin.now
    | true =>
      (repeat refine PW.seq ?_); refine PW.cond (t := _) rfl (fun h => ?_) (fun h => ?_)
      · cases h
      refine PW.skip ?_
      (repeat refine PW.seq ?_); refine PW.rg rfl fun K hK => ?_; simp (maxSteps := 3000000) (disch := omega) only [go_sem, ↓reduceIte, reduceCtorEq, pappend, plen]; refine hK _ _ ?_; clear hK K
      exact PL.at [0, 3] ih rfl rfl
  · refine PL.round ?_; (repeat refine PW.seq ?_); refine PW.rg rfl fun K hK => ?_; simp (maxSteps := 3000000) (disch := omega) only [go_sem, ↓reduceIte, reduceCtorEq, pappend, plen, lt_f l.length, ln]; refine hK _ _ ?_; clear hK K; (repeat refine PW.seq ?_); refine PW.cond (t := _) rfl (fun h => ?_) (fun h => ?_)
    · cases h
    refine PW.exit ?_
    have fo := fun K => fmts_ok l f K hL
    have hb := @par_fmt l hs
    generalize hr : fmtS l = r at *
    obtain ⟨b, e⟩ := r
    unfold rvBV at fo
    (repeat refine PW.seq ?_); refine PW.rg rfl fun K hK => ?_; simp (maxSteps := 3000000) (disch := omega) only [go_sem, ↓reduceIte, reduceCtorEq, pappend, plen]; refine VCx.call (fo _) rfl ?_; simp (maxSteps := 3000000) (disch := omega) only [go_sem, ↓reduceIte, reduceCtorEq, pappend, plen]; refine hK _ _ ?_; clear hK K
    by_cases he : e = 0
    rotate_left
    · have d : (e != 0) = true := by simp [he]
      (repeat refine PW.seq ?_); refine PW.rg rfl fun K hK => ?_; simp (maxSteps := 3000000) (disch := omega) only [go_sem, ↓reduceIte, reduceCtorEq, pappend, plen, d]; refine hK _ _ ?_; clear hK K
      (repeat refine PW.seq ?_); refine PW.cond (t := _) rfl (fun h => ?_) (fun h => ?_)
      rotate_left
      · cases h
      (repeat refine PW.seq ?_); refine PW.rg rfl fun K hK => ?_; simp (maxSteps := 3000000) (disch := omega) only [go_sem, ↓reduceIte, reduceCtorEq, pappend, plen]; refine VCx.call (awake12 _) rfl ?_; simp (maxSteps := 3000000) (disch := omega) only [go_sem, ↓reduceIte, reduceCtorEq, pappend, plen]; refine hK _ _ ?_; clear hK K
      refine PW.ret ⟨.bool true, by simp (maxSteps := 3000000) (disch := omega) only [go_sem, ↓reduceIte, reduceCtorEq, pappend, plen, presults, presult, List.mapM_cons, List.mapM_nil, Option.pure_def, Option.bind_eq_bind, Option.bind_some, Array.toList], ?_⟩
      exact Fin.now
    subst he
    (repeat refine PW.seq ?_); refine PW.rg rfl fun K hK => ?_; simp (maxSteps := 3000000) (disch := omega) only [go_sem, ↓reduceIte, reduceCtorEq, pappend, plen]; refine hK _ _ ?_; clear hK K
    (repeat refine PW.seq ?_); refine PW.cond (t := _) rfl (fun h => ?_) (fun h => ?_)
    · cases h
    refine PW.skip ?_
    obtain ⟨p1, p2, p3⟩ := hb rfl
    have hg : ∀ x ∈ l, GoodI x := erL_good (by
      unfold fmtS at hr
      split at hr
      · assumption
      · rename_i he
        exact absurd (congrArg Prod.snd hr) he)
    have hu : ∀ x, (unR x).1.length ≤ x.length := unR_len
    dsimp only at p1 p2 p3
    have pk := fun K => parse_ok b false K (by omega) hu (by rw [p2]; exact fnd_small hs hlt 0)
    rw [p1] at pk
    unfold rvPP at pk
    dsimp only at pk
    have si := fun K => sameItems_ok l (l.map nrm) f false K (by simp) (fun k h h' => by rw [List.getElem_map]; exact nrm_smi (hg _ (List.getElem_mem h)).k) hs (fun y hy => by obtain ⟨x, hx, rfl⟩ := List.mem_map.1 hy; exact nrm_s (hs x hx)) (by omega) (fun x hx => by have := hL.i x hx; have := this.U; have := (hL.i x hx).us; omega)
    have e0 : dc [] = ([] : List PV) := rfl
    (repeat refine PW.seq ?_); refine PW.rg rfl fun K hK => ?_; simp (maxSteps := 3000000) (disch := omega) only [go_sem, ↓reduceIte, reduceCtorEq, pappend, plen]; refine VCx.call (pk _) rfl ?_; simp (maxSteps := 3000000) (disch := omega) only [go_sem, ↓reduceIte, reduceCtorEq, pappend, plen]; refine hK _ _ ?_; clear hK K
    (repeat refine PW.seq ?_); refine PW.rg rfl fun K hK => ?_; simp (maxSteps := 3000000) (disch := omega) only [go_sem, ↓reduceIte, reduceCtorEq, pappend, plen]; refine VCx.call (awake12 _) rfl ?_; simp (maxSteps := 3000000) (disch := omega) only [go_sem, ↓reduceIte, reduceCtorEq, pappend, plen, e0]; refine VCx.call (si _) rfl ?_; simp (maxSteps := 3000000) (disch := omega) only [go_sem, ↓reduceIte, reduceCtorEq, pappend, plen]; refine hK _ _ ?_; clear hK K
    refine PW.ret ⟨.bool true, by simp (maxSteps := 3000000) (disch := omega) only [go_sem, ↓reduceIte, reduceCtorEq, pappend, plen, presults, presult, List.mapM_cons, List.mapM_nil, Option.pure_def, Option.bind_eq_bind, Option.bind_some, Array.toList], ?_⟩
    exact Fin.now

end Go.Proofs.YtbhdollgohgkgaaDoor.Sc
