/-
  Lists of items: how they lie in memory; light.
-/
import Derived.Test.YtahomnplappbpaaGreatDoorVa
namespace Go.Proofs.YtahomnplappbpaaGreatDoor.Sc
set_option linter.all false
set_option linter.unusedVariables false
set_option linter.unusedSimpArgs false
open Pm Ty Go.RowKit

theorem usr_at (U : List (List UInt8)) (k : Nat) (hk : k < U.length) : (U.flatMap usr1)[k]? = some (.slice (bs U[k]) U[k].length false) := by
  have := flat_get usr1 1 U k 0 hk (fun _ _ => rfl) (by omega)
  rwa [Nat.mul_one, Nat.add_zero] at this
theorem usr_l (U : List (List UInt8)) : (U.flatMap usr1).length = U.length := by
  rw [flat_len usr1 1 U fun _ _ => rfl, Nat.mul_one]

def itL (l : List It) : List PV := l.flatMap itc
theorem itL_len (l : List It) (h : ∀ x ∈ l, SqOk x.s) : (itL l).length = l.length * 148 := flat_len itc 148 l fun x hx => itc_len x (h x hx)
theorem itL_at (l : List It) (h : ∀ x ∈ l, SqOk x.s) (k : Nat) (hk : k < l.length) : List.take 148 (List.drop (k * 148) (itL l)) = itc l[k] := flat_at itc 148 l k hk fun x hx => itc_len x (h x hx)
theorem itL_get (l : List It) (h : ∀ x ∈ l, SqOk x.s) (k r : Nat) (hk : k < l.length) (hr : r < 148) : (itL l)[k * 148 + r]? = (itc l[k])[r]? := flat_get itc 148 l k r hk (fun x hx => itc_len x (h x hx)) hr
theorem itL_sc (n : Nat) (l : List It) : ∀ x ∈ itL l, Scoped n x := fun x hx => by
  obtain ⟨u, _, hx⟩ := List.mem_flatMap.1 hx
  exact itc_sc _ _ x hx
theorem itL_sub (l : List It) (h : ∀ x ∈ l, SqOk x.s) (k r n : Nat) (hk : k < l.length) (hr : r + n ≤ 148) : List.take n (List.drop (k * 148 + r) (itL l)) = List.take n (List.drop r (itc l[k])) := by
  rw [← itL_at l h k hk, List.drop_take, List.take_take, Nat.min_eq_left (by omega), List.drop_drop]
def padB (x : It) : Bool := !(decide (5000 < x.pad) && decide (x.pad ≤ 1048576))
def ltI (x : It) : Bool := (padB x && (decide (x.U.length ≤ 4) && decide (x.us.length ≤ 8))) && ((x.U.all fun u => decide (u.length ≤ 400)) && (x.us.all fun u => decide (u.2.length ≤ 3000)))
def ltB (l : List It) : Bool := decide (l.length ≤ 60) && l.all ltI
theorem all_dropL {α : Type} (f : α → Bool) (l : List α) (j : Nat) (h : j < l.length) : (l.drop j).all f = (f l[j] && (l.drop (j + 1)).all f) := by
  rw [List.drop_eq_getElem_cons h]; rfl

set_option maxHeartbeats 8000000 in
set_option maxRecDepth 100000 in
theorem light12 (l : List It) (f : Bool) (H : Heap) (hs : ∀ x ∈ l, SqOk x.s) : CallOk Tryz.prog 9 [.slice (itL l) l.length f] H (.bool (ltB l)) H := by
  have ln := itL_len l hs
  have fin : ∀ (b : Bool) (K : Heap), Fin H (.bool b) H (.bool b) (H ++ K) := fun b K => Fin.base (.id (.bool _))
  have fin0 : ∀ (b : Bool), Fin H (.bool b) H (.bool b) H := fun b => Fin.now
  unfold ltB
  refine CallOk.body (F0 := [(0, .slice (itL l) l.length f)]) Tryz.func9 rfl Tryz.ntmps9 Tryz.results9 rfl (by kernel_rfl) rfl ?_
  (repeat refine PW.seq ?_); refine PW.rg rfl fun K hK => ?_; simp (maxSteps := 3000000) (disch := omega) only [go_sem, ↓reduceIte, reduceCtorEq, pappend, plen]; refine hK _ _ ?_; clear hK K
  (repeat refine PW.seq ?_); refine PW.rg rfl fun K hK => ?_; simp (maxSteps := 3000000) (disch := omega) only [go_sem, ↓reduceIte, reduceCtorEq, pappend, plen]; refine hK _ _ ?_; clear hK K
  by_cases h60 : l.length ≤ 60
  rotate_left
  · have d1 : decide ((60 : Int) < (l.length : Int)) = true := decide_eq_true (by omega)
    (repeat refine PW.seq ?_); refine PW.cond (t := _) rfl (fun h => ?_) (fun h => ?_)
    rotate_left
    · rw [d1] at h; cases h
    rw [decide_eq_false h60, Bool.false_and]
    (repeat refine PW.seq ?_); refine PW.rg rfl fun K hK => ?_; simp (maxSteps := 3000000) (disch := omega) only [go_sem, ↓reduceIte, reduceCtorEq, pappend, plen]; refine hK _ _ ?_; clear hK K
    refine PW.ret ⟨.bool false, by simp (maxSteps := 3000000) (disch := omega) only [go_sem, ↓reduceIte, reduceCtorEq, pappend, plen, presults, presult, List.mapM_cons, List.mapM_nil, Option.pure_def, Option.bind_eq_bind, Option.bind_some, Array.toList], ?_⟩
    exact fin0 _
  have d1 : decide ((60 : Int) < (l.length : Int)) = false := decide_eq_false (by omega)
  (repeat refine PW.seq ?_); refine PW.cond (t := _) rfl (fun h => ?_) (fun h => ?_)
  · rw [d1] at h; cases h
  rw [decide_eq_true h60, Bool.true_and]
  refine PW.skip ?_
  (repeat refine PW.seq ?_); refine PW.rg rfl fun K hK => ?_; simp (maxSteps := 3000000) (disch := omega) only [go_sem, ↓reduceIte, reduceCtorEq, pappend, plen]; refine hK _ _ ?_; clear hK K
  (repeat refine PW.seq ?_); refine PW.block (PW.loop ?_)
  suffices hl1 : ∀ j : Nat, j ≤ l.length → (l.drop j).all ltI = l.all ltI → PL Tryz.prog _ _ [(0, .slice (itL l) l.length f), (3, .int .i64 (j : Int))] H _ by
    exact PL.at [0, 3] (hl1 0 (by omega) rfl) rfl rfl
  intro j hj hf
  induction hd : l.length - j using Nat.strongRecOn generalizing j with
  | _ d ih =>
    refine PL.round ?_; (repeat refine PW.seq ?_); refine PW.rg rfl fun K hK => ?_; simp (maxSteps := 3000000) (disch := omega) only [go_sem, ↓reduceIte, reduceCtorEq, pappend, plen]; refine hK _ _ ?_; clear hK K
    (repeat refine PW.seq ?_); refine PW.cond (t := _) rfl (fun h => ?_) (fun h => ?_)
    · have hjl : j < l.length := by have := of_decide_eq_true h; omega
      have ip := itL_get l hs j 147 hjl (by omega)
      have hc := itL_sub l hs j 139 8 hjl (by omega)
      have hx := hs l[j] (List.getElem_mem hjl)
      rw [itc_pad _ hx] at ip
      rw [itc_c _ hx] at hc
      rw [all_dropL ltI l j hjl] at hf
      have hnext := fun hf => ih (l.length - (j + 1)) (by omega) (j + 1) (by omega) hf rfl
      generalize l[j] = x at *
      refine PW.skip ?_; (repeat refine PW.seq ?_); refine PW.block ?_
      have c1 := cdc_cell x.p x.U x.us
      have c2 := cdc_len x.p x.U x.us
      have c6 : (cdc x.p x.U x.us)[6]? = some (usr x.U) := rfl
      have c7 := cdc_7 x.p x.U x.us
      have c8 : List.drop 8 (cdc x.p x.U x.us) = [] := rfl
      have ul := usr_l x.U
      have ql := uq_len x.us
      (repeat refine PW.seq ?_); refine PW.rg rfl fun K hK => ?_; simp (maxSteps := 3000000) (disch := omega) only [go_sem, ↓reduceIte, reduceCtorEq, pappend, plen, ln, hc, c1, c2, c8, List.append_nil]; refine hK _ _ ?_; clear hK K
      suffices hrest : PW Tryz.prog _ _ [(0, .slice (itL l) l.length f), (3, .int .i64 (j : Int)), (4, .ptr H.length 0 0), (46, .bool (!(padB x && (decide (x.U.length ≤ 4) && decide (x.us.length ≤ 8)))))] (H ++ [⟨75, 0, cdc x.p x.U x.us⟩]) _ by
        unfold padB at hrest
        by_cases p1 : 5000 < x.pad
        · have e1 : decide (5000 < x.pad) = true := decide_eq_true p1
          by_cases p2 : x.pad ≤ 1048576
          · have e2 : decide (x.pad ≤ 1048576) = true := decide_eq_true p2
            rw [e1, e2] at hrest
            (repeat refine PW.seq ?_); refine PW.rg rfl fun K hK => ?_; simp (maxSteps := 3000000) (disch := omega) only [go_sem, ↓reduceIte, reduceCtorEq, pappend, plen, ln, ip, e1, e2]; refine hK _ _ ?_; clear hK K
            exact PW.at [0, 3, 4, 46] hrest rfl rfl
          · have e2 : decide (x.pad ≤ 1048576) = false := decide_eq_false p2
            rw [e1, e2] at hrest
            by_cases p3 : x.U.length ≤ 4
            · have e3 : decide ((4 : Int) < (x.U.length : Int)) = false := decide_eq_false (by omega)
              have e4 : decide ((8 : Int) < (x.us.length : Int)) = !decide (x.us.length ≤ 8) := by rw [Bool.eq_iff_iff]; simp; omega
              rw [decide_eq_true p3] at hrest
              (repeat refine PW.seq ?_); refine PW.rg rfl fun K hK => ?_; simp (maxSteps := 3000000) (disch := omega) only [go_sem, ↓reduceIte, reduceCtorEq, pappend, plen, ln, ip, e1, e2, c2, c6, usr, c7, e3, e4]; refine hK _ _ ?_; clear hK K
              exact PW.at [0, 3, 4, 46] hrest (by simp [kp, slot, Nat.beq]) rfl
            · have e3 : decide ((4 : Int) < (x.U.length : Int)) = true := decide_eq_true (by omega)
              rw [decide_eq_false p3] at hrest
              (repeat refine PW.seq ?_); refine PW.rg rfl fun K hK => ?_; simp (maxSteps := 3000000) (disch := omega) only [go_sem, ↓reduceIte, reduceCtorEq, pappend, plen, ln, ip, e1, e2, c2, c6, usr, c7, e3]; refine hK _ _ ?_; clear hK K
              exact PW.at [0, 3, 4, 46] hrest (by simp [kp, slot, Nat.beq]) rfl
        · have e1 : decide (5000 < x.pad) = false := decide_eq_false p1
          rw [e1] at hrest
          by_cases p3 : x.U.length ≤ 4
          · have e3 : decide ((4 : Int) < (x.U.length : Int)) = false := decide_eq_false (by omega)
            have e4 : decide ((8 : Int) < (x.us.length : Int)) = !decide (x.us.length ≤ 8) := by rw [Bool.eq_iff_iff]; simp; omega
            rw [decide_eq_true p3] at hrest
            (repeat refine PW.seq ?_); refine PW.rg rfl fun K hK => ?_; simp (maxSteps := 3000000) (disch := omega) only [go_sem, ↓reduceIte, reduceCtorEq, pappend, plen, ln, ip, e1, c2, c6, usr, c7, e3, e4]; refine hK _ _ ?_; clear hK K
            exact PW.at [0, 3, 4, 46] hrest (by simp [kp, slot, Nat.beq]) rfl
          · have e3 : decide ((4 : Int) < (x.U.length : Int)) = true := decide_eq_true (by omega)
            rw [decide_eq_false p3] at hrest
            (repeat refine PW.seq ?_); refine PW.rg rfl fun K hK => ?_; simp (maxSteps := 3000000) (disch := omega) only [go_sem, ↓reduceIte, reduceCtorEq, pappend, plen, ln, ip, e1, c2, c6, usr, c7, e3]; refine hK _ _ ?_; clear hK K
            exact PW.at [0, 3, 4, 46] hrest (by simp [kp, slot, Nat.beq]) rfl
      unfold ltI at hf
      cases hA : (padB x && (decide (x.U.length ≤ 4) && decide (x.us.length ≤ 8))) with
      | false =>
        rw [hA, Bool.false_and, Bool.false_and] at hf
        (repeat refine PW.seq ?_); refine PW.cond (t := _) rfl (fun h => ?_) (fun h => ?_)
        rotate_left
        · cases h
        (repeat refine PW.seq ?_); refine PW.rg rfl fun K hK => ?_; simp (maxSteps := 3000000) (disch := omega) only [go_sem, ↓reduceIte, reduceCtorEq, pappend, plen]; refine hK _ _ ?_; clear hK K
        refine PW.ret ⟨.bool false, by simp (maxSteps := 3000000) (disch := omega) only [go_sem, ↓reduceIte, reduceCtorEq, pappend, plen, presults, presult, List.mapM_cons, List.mapM_nil, Option.pure_def, Option.bind_eq_bind, Option.bind_some, Array.toList], ?_⟩
        rw [show (l.all ltI) = false from hf.symm]
        exact fin _ _
      | true =>
        rw [hA, Bool.true_and] at hf
        simp only [Bool.and_eq_true, decide_eq_true_eq] at hA
        obtain ⟨_, hU4, hu8⟩ := hA
        (repeat refine PW.seq ?_); refine PW.cond (t := _) rfl (fun h => ?_) (fun h => ?_)
        · cases h
        refine PW.skip ?_
        (repeat refine PW.seq ?_); refine PW.rg rfl fun K hK => ?_; simp (maxSteps := 3000000) (disch := omega) only [go_sem, ↓reduceIte, reduceCtorEq, pappend, plen]; refine hK _ _ ?_; clear hK K
        (repeat refine PW.seq ?_); refine PW.block (PW.loop ?_)
        suffices hl2 : ∀ k : Nat, k ≤ x.U.length → ((((x.U.drop k).all fun u => decide (u.length ≤ 400)) && (x.us.all fun u => decide (u.2.length ≤ 3000))) && (l.drop (j + 1)).all ltI) = l.all ltI → PL Tryz.prog _ _ [(0, .slice (itL l) l.length f), (3, .int .i64 (j : Int)), (4, .ptr H.length 0 0), (5, .int .i64 (k : Int))] (H ++ [⟨75, 0, cdc x.p x.U x.us⟩]) _ by
          exact PL.at [0, 3, 4, 5] (hl2 0 (by omega) hf) rfl rfl
        clear hf
        intro k hk hf
        induction hd2 : x.U.length - k using Nat.strongRecOn generalizing k with
        | _ d2 ih2 =>
          refine PL.round ?_; (repeat refine PW.seq ?_); refine PW.rg rfl fun K hK => ?_; simp (maxSteps := 3000000) (disch := omega) only [go_sem, ↓reduceIte, reduceCtorEq, pappend, plen, c2, c6, usr]; refine hK _ _ ?_; clear hK K
          (repeat refine PW.seq ?_); refine PW.cond (t := _) rfl (fun h => ?_) (fun h => ?_)
          · have hkU : k < x.U.length := by have := of_decide_eq_true h; omega
            have ua := usr_at x.U k hkU
            rw [all_dropL _ x.U k hkU] at hf
            have hn2 := fun hf => ih2 (x.U.length - (k + 1)) (by omega) (k + 1) (by omega) hf rfl
            generalize x.U[k] = u at *
            refine PW.skip ?_; (repeat refine PW.seq ?_); refine PW.block ?_
            by_cases h4 : u.length ≤ 400
            · have d4 : decide ((400 : Int) < (u.length : Int)) = false := decide_eq_false (by omega)
              rw [decide_eq_true h4, Bool.true_and] at hf
              (repeat refine PW.seq ?_); refine PW.rg rfl fun K hK => ?_; simp (maxSteps := 3000000) (disch := omega) only [go_sem, ↓reduceIte, reduceCtorEq, pappend, plen, c2, c6, usr, ua, ul, d4]; refine hK _ _ ?_; clear hK K
              (repeat refine PW.seq ?_); refine PW.cond (t := _) rfl (fun h => ?_) (fun h => ?_)
              · cases h
              refine PW.skip ?_
              (repeat refine PW.seq ?_); refine PW.rg rfl fun K hK => ?_; simp (maxSteps := 3000000) (disch := omega) only [go_sem, ↓reduceIte, reduceCtorEq, pappend, plen]; refine hK _ _ ?_; clear hK K
              exact PL.at [0, 3, 4, 5] (hn2 hf) rfl rfl
            · have d4 : decide ((400 : Int) < (u.length : Int)) = true := decide_eq_true (by omega)
              rw [decide_eq_false h4, Bool.false_and, Bool.false_and, Bool.false_and] at hf
              (repeat refine PW.seq ?_); refine PW.rg rfl fun K hK => ?_; simp (maxSteps := 3000000) (disch := omega) only [go_sem, ↓reduceIte, reduceCtorEq, pappend, plen, c2, c6, usr, ua, ul, d4]; refine hK _ _ ?_; clear hK K
              (repeat refine PW.seq ?_); refine PW.cond (t := _) rfl (fun h => ?_) (fun h => ?_)
              rotate_left
              · cases h
              (repeat refine PW.seq ?_); refine PW.rg rfl fun K hK => ?_; simp (maxSteps := 3000000) (disch := omega) only [go_sem, ↓reduceIte, reduceCtorEq, pappend, plen]; refine hK _ _ ?_; clear hK K
              refine PW.ret ⟨.bool false, by simp (maxSteps := 3000000) (disch := omega) only [go_sem, ↓reduceIte, reduceCtorEq, pappend, plen, presults, presult, List.mapM_cons, List.mapM_nil, Option.pure_def, Option.bind_eq_bind, Option.bind_some, Array.toList], ?_⟩
              rw [← hf]
              exact fin _ _
          · have hkU : k = x.U.length := by have := of_decide_eq_false h; omega
            rw [hkU, List.drop_length, List.all_nil, Bool.true_and] at hf
            refine PW.exit ?_
            clear ih2
            (repeat refine PW.seq ?_); refine PW.rg rfl fun K hK => ?_; simp (maxSteps := 3000000) (disch := omega) only [go_sem, ↓reduceIte, reduceCtorEq, pappend, plen]; refine hK _ _ ?_; clear hK K
            (repeat refine PW.seq ?_); refine PW.block (PW.loop ?_)
            suffices hl3 : ∀ k : Nat, k ≤ x.us.length → (((x.us.drop k).all fun u => decide (u.2.length ≤ 3000)) && (l.drop (j + 1)).all ltI) = l.all ltI → PL Tryz.prog _ _ [(0, .slice (itL l) l.length f), (3, .int .i64 (j : Int)), (4, .ptr H.length 0 0), (6, .int .i64 (k : Int))] (H ++ [⟨75, 0, cdc x.p x.U x.us⟩]) _ by
              exact PL.at [0, 3, 4, 6] (hl3 0 (by omega) hf) rfl rfl
            clear hf hkU hk h hd2
            intro k hk hf
            induction hd3 : x.us.length - k using Nat.strongRecOn generalizing k with
            | _ d3 ih3 =>
              refine PL.round ?_; (repeat refine PW.seq ?_); refine PW.rg rfl fun K hK => ?_; simp (maxSteps := 3000000) (disch := omega) only [go_sem, ↓reduceIte, reduceCtorEq, pappend, plen, c2, c7]; refine hK _ _ ?_; clear hK K
              (repeat refine PW.seq ?_); refine PW.cond (t := _) rfl (fun h => ?_) (fun h => ?_)
              · have hku : k < x.us.length := by have := of_decide_eq_true h; omega
                have u1 := uq_1 x.us k hku
                rw [all_dropL _ x.us k hku] at hf
                have hn3 := fun hf => ih3 (x.us.length - (k + 1)) (by omega) (k + 1) (by omega) hf rfl
                generalize x.us[k] = u at *
                refine PW.skip ?_; (repeat refine PW.seq ?_); refine PW.block ?_
                by_cases h4 : u.2.length ≤ 3000
                · have d4 : decide ((3000 : Int) < (u.2.length : Int)) = false := decide_eq_false (by omega)
                  rw [decide_eq_true h4, Bool.true_and] at hf
                  (repeat refine PW.seq ?_); refine PW.rg rfl fun K hK => ?_; simp (maxSteps := 3000000) (disch := omega) only [go_sem, ↓reduceIte, reduceCtorEq, pappend, plen, c2, c7, u1, ql, d4]; refine hK _ _ ?_; clear hK K
                  (repeat refine PW.seq ?_); refine PW.cond (t := _) rfl (fun h => ?_) (fun h => ?_)
                  · cases h
                  refine PW.skip ?_
                  (repeat refine PW.seq ?_); refine PW.rg rfl fun K hK => ?_; simp (maxSteps := 3000000) (disch := omega) only [go_sem, ↓reduceIte, reduceCtorEq, pappend, plen]; refine hK _ _ ?_; clear hK K
                  exact PL.at [0, 3, 4, 6] (hn3 hf) rfl rfl
                · have d4 : decide ((3000 : Int) < (u.2.length : Int)) = true := decide_eq_true (by omega)
                  rw [decide_eq_false h4, Bool.false_and, Bool.false_and] at hf
                  (repeat refine PW.seq ?_); refine PW.rg rfl fun K hK => ?_; simp (maxSteps := 3000000) (disch := omega) only [go_sem, ↓reduceIte, reduceCtorEq, pappend, plen, c2, c7, u1, ql, d4]; refine hK _ _ ?_; clear hK K
                  (repeat refine PW.seq ?_); refine PW.cond (t := _) rfl (fun h => ?_) (fun h => ?_)
                  rotate_left
                  · cases h
                  (repeat refine PW.seq ?_); refine PW.rg rfl fun K hK => ?_; simp (maxSteps := 3000000) (disch := omega) only [go_sem, ↓reduceIte, reduceCtorEq, pappend, plen]; refine hK _ _ ?_; clear hK K
                  refine PW.ret ⟨.bool false, by simp (maxSteps := 3000000) (disch := omega) only [go_sem, ↓reduceIte, reduceCtorEq, pappend, plen, presults, presult, List.mapM_cons, List.mapM_nil, Option.pure_def, Option.bind_eq_bind, Option.bind_some, Array.toList], ?_⟩
                  rw [← hf]
                  exact fin _ _
              · have hku : k = x.us.length := by have := of_decide_eq_false h; omega
                rw [hku, List.drop_length, List.all_nil, Bool.true_and] at hf
                refine PW.exit ?_
                (repeat refine PW.seq ?_); refine PW.rg rfl fun K hK => ?_; simp (maxSteps := 3000000) (disch := omega) only [go_sem, ↓reduceIte, reduceCtorEq, pappend, plen]; refine hK _ _ ?_; clear hK K
                refine PL.keep [0, 3] ?_
                refine PL.view (Vs.trim (F1 := [(0, .slice (itL l) l.length f), (3, .int .i64 ((j + 1 : Nat) : Int))]) (H1 := H) (fun h => h) (Nat.le_refl _) rfl ?_) (hnext hf)
                exact ⟨.id (sl_scoped (itL_sc _ _)), .id (.int _ _), trivial⟩
    · have hjl : j = l.length := by have := of_decide_eq_false h; omega
      subst hjl
      rw [List.drop_length] at hf
      rw [← hf]
      refine PW.exit ?_
      (repeat refine PW.seq ?_); refine PW.rg rfl fun K hK => ?_; simp (maxSteps := 3000000) (disch := omega) only [go_sem, ↓reduceIte, reduceCtorEq, pappend, plen]; refine hK _ _ ?_; clear hK K
      refine PW.ret ⟨.bool true, by simp (maxSteps := 3000000) (disch := omega) only [go_sem, ↓reduceIte, reduceCtorEq, pappend, plen, presults, presult, List.mapM_cons, List.mapM_nil, Option.pure_def, Option.bind_eq_bind, Option.bind_some, Array.toList], ?_⟩
      exact fin0 _

end Go.Proofs.YtahomnplappbpaaGreatDoor.Sc
