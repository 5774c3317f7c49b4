/-
  Contracts of chapter 3: the statements' own 'joined'.
-/
import Derived.Test.YtdeehmdkpdgpfaaSm
import Derived.Test.YtdeehmdkpdgpfaaPmG
namespace Go.Proofs.Ytdeehmdkpdgpfaa.Sc
set_option linter.all false
set_option linter.unusedVariables false
set_option linter.unusedSimpArgs false
open Pm Ty Go.RowKit

def ic (l : List Int) : List PV := l.map fun n => .int .i64 n
theorem ic_len (l : List Int) : (ic l).length = l.length := by simp [ic]
theorem ic_get (l : List Int) (i : Nat) (h : i < l.length) : (ic l)[i]? = some (.int .i64 (l.getD i 0)) := by simp [ic, h]
def padN (pads : List Int) (i : Nat) : Nat := if i < pads.length ∧ 0 < pads.getD i 0 then (pads.getD i 0 % 8).toNat else 0
theorem padN_lt (pads : List Int) (i : Nat) : padN pads i < 8 := by unfold padN; split <;> omega
def zs (n : Nat) : List UInt8 := List.replicate n 0
/-- What 'joined' has after i units. -/
def jS (pads : List Int) (us : List (Int × List UInt8)) : Nat → List UInt8 × List Fnd
  | 0 => ([], [])
  | i + 1 => let s := jS pads us i; let b := s.1 ++ zs (padN pads i); let c := (fmtR (un us i).1 (un us i).2).1
    (b ++ c, s.2 ++ [⟨(un us i).1, (un us i).2, b.length, b.length + c.length, 0⟩])
def fixN (n : Nat) : List Fnd → List Fnd
  | [] => []
  | x :: r => { x with nx := match r with | [] => n | y :: _ => y.fr } :: fixN n r
def jB (pads : List Int) (us : List (Int × List UInt8)) : List UInt8 := (jS pads us us.length).1
def jF (pads : List Int) (us : List (Int × List UInt8)) : List Fnd := fixN (jB pads us).length (jS pads us us.length).2

theorem formed_at {us : List (Int × List UInt8)} (h : formedB us = true) : us.length ≤ 20 ∧ ∀ i, i < us.length → (un us i).2.length ≤ 100 ∧ (fmtR (un us i).1 (un us i).2).2 = 0 := by
  simp only [formedB, Bool.and_eq_true, decide_eq_true_eq, List.all_eq_true] at h
  refine ⟨h.1, fun i hi => ?_⟩
  have := h.2 (un us i) (by simp [un, hi])
  simpa [unitOk] using this
theorem fmt_len {t : Int} {p : List UInt8} (h : (fmtR t p).2 = 0) : (fmtR t p).1.length = 4 + (esc p).length := (clean_facts t p h _ rfl).2.2.2
theorem jS_len (pads : List Int) {us : List (Int × List UInt8)} (h : formedB us = true) : ∀ i, i ≤ us.length → (jS pads us i).1.length ≤ i * 220 ∧ (jS pads us i).2.length = i
  | 0, _ => by simp [jS]
  | i + 1, hi => by
    obtain ⟨h1, h2⟩ := jS_len pads h i (by omega)
    obtain ⟨h3, h4⟩ := (formed_at h).2 i (by omega)
    have h5 := padN_lt pads i
    have h6 := fmt_len h4
    have h7 := (escS_bd (un us i).2).2
    unfold esc at h6
    refine ⟨?_, by simp [jS, h2]⟩
    simp only [jS, List.length_append, zs, List.length_replicate]
    omega
theorem fixN_len (n : Nat) : ∀ l, (fixN n l).length = l.length
  | [] => rfl
  | x :: r => by simp [fixN, fixN_len n r]
theorem fixN_get (n : Nat) : ∀ (l : List Fnd) (k : Nat) (h : k < l.length), fixN n l = (fixN n l).take k ++ { fn l k with nx := if k + 1 < l.length then (fn l (k + 1)).fr else n } :: (fixN n l).drop (k + 1)
  | x :: r, 0, _ => by
    cases r with
    | nil => rfl
    | cons y r => simp [fixN, fn]
  | x :: r, k + 1, h => by
    have := fixN_get n r k (by simpa using h)
    simp only [fixN, List.take_succ_cons, List.drop_succ_cons, List.cons_append, List.cons.injEq, true_and]
    conv => lhs; rw [this]
    simp [fn]
theorem fc_cons (x : Fnd) (l : List Fnd) : fc (x :: l) = fd x ++ fc l := rfl
theorem fc_set : ∀ (l : List Fnd) (k n : Nat) (h : k < l.length), (fc l).set (k * 5 + 4) (.int .i64 n) = fc (l.set k { fn l k with nx := n })
  | x :: r, 0, n, _ => rfl
  | x :: r, k + 1, n, h => by
    have := fc_set r k n (by simpa using h)
    rw [fc_cons, show (k + 1) * 5 + 4 = 5 + (k * 5 + 4) by omega, List.set_append_right _ _ (by simp [fd]), show 5 + (k * 5 + 4) - (fd x).length = k * 5 + 4 by simp [fd], this]
    rfl
theorem fc_2 (l : List Fnd) (i : Nat) (h : i < l.length) : (fc l)[i * 5 + 2]? = some (.int .i64 (fn l i).fr) := by
  have := congrArg (fun l => l[2]?) (fc_take l i h)
  simp only [fd] at this
  rw [List.getElem?_take, if_pos (by omega), List.getElem?_drop] at this
  simpa using this
theorem reps_byte (n : Nat) : reps n [.int .u8 0] = bs (zs n) := by
  induction n with
  | zero => rfl
  | succ n ih => simp [reps, bs, zs, List.replicate_succ] at ih ⊢
theorem bs_rep (n : Nat) : bs (List.replicate n 0) = List.replicate n (.int .u8 0) := by simp [bs]
theorem bs_scoped (n : Nat) (p : List UInt8) : ∀ x ∈ bs p, Scoped n x := fun x hx => by
  obtain ⟨b, _, rfl⟩ := List.mem_map.1 hx
  exact .int _ _
theorem sl_scoped {n k : Nat} {xs : List PV} {f : Bool} (h : ∀ x ∈ xs, Scoped n x) : Scoped n (.slice xs k f) := .slice fun j x hx => h x (List.mem_of_getElem? hx)
theorem fc_scoped (n : Nat) (l : List Fnd) : ∀ x ∈ fc l, Scoped n x := fun x hx => by
  obtain ⟨u, _, hu⟩ := List.mem_flatMap.1 hx
  simp only [fd, List.mem_cons, List.not_mem_nil, or_false] at hu
  rcases hu with rfl | rfl | rfl | rfl | rfl
  · exact .int _ _
  · exact sl_scoped (bs_scoped n _)
  all_goals exact .int _ _

theorem fn_left {l m : List Fnd} {k : Nat} (h : l.length = k) : fn (l ++ m) k = fn m 0 := by
  subst h; simp only [fn, List.getD]; rw [List.getElem?_append_right (Nat.le_refl _), Nat.sub_self]
theorem fn_drop (l : List Fnd) (k : Nat) : fn (l.drop k) 0 = fn l k := by simp [fn]
theorem fn_set_eq (l : List Fnd) (k : Nat) (x : Fnd) (h : k < l.length) : fn (l.set k x) k = x := by simp [fn, h]
theorem fn_set_ne (l : List Fnd) (k j : Nat) (x : Fnd) (h : k ≠ j) : fn (l.set k x) j = fn l j := by simp [fn, h]
theorem mix_at (n : Nat) (out : List Fnd) (k : Nat) (h : k < out.length) : fn ((fixN n out).take k ++ out.drop k) k = fn out k := by
  rw [fn_left (by simp [fixN_len]; omega), fn_drop]
theorem mix_at1 (n : Nat) (out : List Fnd) (k : Nat) (h : k < out.length) : fn ((fixN n out).take k ++ out.drop k) (k + 1) = fn out (k + 1) := by
  have hl : ((fixN n out).take k).length = k := by simp [fixN_len]; omega
  simp only [fn, List.getD]
  rw [List.getElem?_append_right (by omega), hl, List.getElem?_drop, show k + (k + 1 - k) = k + 1 by omega]
theorem mix_set (n : Nat) (out : List Fnd) (k : Nat) (h : k < out.length) : ((fixN n out).take k ++ out.drop k).set k { fn out k with nx := if k + 1 < out.length then (fn out (k + 1)).fr else n } = (fixN n out).take (k + 1) ++ out.drop (k + 1) := by
  have hl : ((fixN n out).take k).length = k := by simp [fixN_len]; omega
  have h1 : (fixN n out).take (k + 1) = (fixN n out).take k ++ [{ fn out k with nx := if k + 1 < out.length then (fn out (k + 1)).fr else n }] := by
    conv => lhs; rw [fixN_get n out k h]
    rw [List.take_append, hl, List.take_of_length_le (by omega)]
    simp
  have h2 : out.drop k = fn out k :: out.drop (k + 1) := by rw [List.drop_eq_getElem_cons h]; simp [fn, h]
  rw [h1, List.set_append_right _ _ (by omega), hl, Nat.sub_self, h2]
  simp
def ub (id : Nat) (b : List UInt8) : PV := .msl id (bs b).length 0 b.length 1 true
def uB (b : List UInt8) : Blk := ⟨5, (bs b).length, bs b⟩
def of_ (id v : Nat) (l : List Fnd) : PV := .msl id v 0 l.length 5 true
def oF (v : Nat) (l : List Fnd) : Blk := ⟨46, v, fc l⟩

theorem joined_ok (us : List (Int × List UInt8)) (pads : List Int) (g f : Bool) (H : Heap) (hf : formedB us = true) (hp : pads.length ≤ 9223372036854775807) :
    CallOk Try.prog 23 [.slice (uc false us) us.length g, .slice (ic pads) pads.length f] H (.tup [ub H.length (jB pads us), .slice (fc (jF pads us)) (jF pads us).length false, .bool true]) (H ++ [uB (jB pads us)]) := by
  obtain ⟨h20, hat⟩ := formed_at hf
  refine CallOk.body (F0 := [(0, .slice (uc false us) us.length g), (1, .slice (ic pads) pads.length f)]) Try.func23 rfl Try.ntmps23 Try.results23 rfl (by kernel_rfl) rfl ?_
  refine PW.seq ?_; refine PW.rg rfl fun K hK => ?_; simp (disch := omega) only [go_sem, ↓reduceIte, reduceCtorEq, pappend, plen]; refine hK _ _ ?_; clear hK K; refine PW.seq ?_; refine PW.rg rfl fun K hK => ?_; simp (disch := omega) only [go_sem, ↓reduceIte, reduceCtorEq, pappend, plen]; refine hK _ _ ?_; clear hK K; refine PW.seq ?_; refine PW.rg rfl fun K hK => ?_; simp (disch := omega) only [go_sem, ↓reduceIte, reduceCtorEq, pappend, plen]; refine hK _ _ ?_; clear hK K
  refine PW.seq ?_; refine PW.seq ?_; refine PW.rg rfl fun K hK => ?_; simp (disch := omega) only [go_sem, ↓reduceIte, reduceCtorEq, pappend, plen]; refine hK _ _ ?_; clear hK K
  refine PW.view (Vs.ghost 7 5 1 rfl) (PW.view (Vs.ghost 8 46 5 rfl) ?_)
  refine PW.block (PW.loop ?_)
  suffices hloop : ∀ (i : Nat), i ≤ us.length → PL Try.prog _ _ [(0, .slice (uc false us) us.length g), (1, .slice (ic pads) pads.length f), (7, ub H.length (jS pads us i).1), (8, of_ (H.length + 1) (fc (jS pads us i).2).length (jS pads us i).2), (9, .int .i64 (i : Int))]
      (H ++ [uB (jS pads us i).1, oF (fc (jS pads us i).2).length (jS pads us i).2]) _ by
    refine PL.at [0, 1, 7, 8, 9] (hloop 0 (Nat.zero_le _)) ?_ ?_
    · simp (disch := omega) only [go_sem, ↓reduceIte, reduceCtorEq, pappend, plen, ub, of_, jS, bs_nil, fc, List.flatMap_nil]; rfl
    · simp [uB, oF, jS, bs, fc]
  intro i hi
  induction hm : us.length - i using Nat.strongRecOn generalizing i with
  | _ n ih =>
    obtain ⟨hL1, hL2⟩ := jS_len pads hf i hi
    refine PL.round (PW.seq (PW.seq ?_)); refine PW.rg rfl fun K hK => ?_; simp (disch := omega) only [go_sem, ↓reduceIte, reduceCtorEq, pappend, plen]; refine hK _ _ ?_; clear hK K
    refine PW.cond (t := _) rfl (fun h => ?_) (fun h => ?_)
    · have h4 : i < us.length := by have := of_decide_eq_true h; omega
      obtain ⟨hu1, hu2⟩ := hat i h4
      have hfl := fmt_len hu2
      have heb := (escS_bd (un us i).2).2
      rw [show (escS (un us i).2).1 = esc (un us i).2 from rfl] at heb
      have hpl := padN_lt pads i
      refine PW.skip (PW.seq (PW.block ?_))
      refine PW.to [0, 1, 7, 8, 9] [(0, .slice (uc false us) us.length g), (1, .slice (ic pads) pads.length f), (7, ub H.length ((jS pads us i).1 ++ zs (padN pads i))), (8, of_ (H.length + 1) (fc (jS pads us i).2).length (jS pads us i).2), (9, .int .i64 (i : Int))]
        (H ++ [uB ((jS pads us i).1 ++ zs (padN pads i)), oF (fc (jS pads us i).2).length (jS pads us i).2]) ?_ ?_
      · refine PW.seq (PW.rgv [0, 1, 7, 8, 9] 29 (.bool (decide (i < pads.length ∧ 0 < pads.getD i 0))) rfl ?_ ?_)
        · by_cases h1 : i < pads.length
          · simp (disch := omega) only [go_sem, ↓reduceIte, reduceCtorEq, pappend, plen, ic_len, ic_get]
            try simp [h1]
          · simp (disch := omega) only [go_sem, ↓reduceIte, reduceCtorEq, pappend, plen, ic_len, ic_get]
            try simp [h1]
        refine PW.cond (t := _) rfl (fun h => ?_) (fun h => ?_)
        · have h5 := of_decide_eq_true h
          have e1 : padN pads i = (pads.getD i 0 % 8).toNat := by unfold padN; rw [if_pos h5]
          have e2 : (pads.getD i 0).tmod 8 = (padN pads i : Int) := by rw [e1, Int.tmod_eq_emod_of_nonneg (by omega)]; omega
          generalize padN pads i = m at *
          by_cases h0 : m = 0
          · subst h0
            refine PW.rg rfl fun K hK => ?_; simp (disch := omega) only [go_sem, ↓reduceIte, reduceCtorEq, pappend, plen, ic_len, ic_get, ub, uB, of_, oF, e2, reps_byte, length_bs]; refine hK _ _ ?_; clear hK K
            exact ⟨by simp [zs, kp, slot, Nat.beq, ub, length_bs, of_, hL2], by simp [zs, uB, oF, length_bs]⟩
          · refine PW.rg rfl fun K hK => ?_; simp (disch := omega) only [go_sem, ↓reduceIte, reduceCtorEq, pappend, plen, ic_len, ic_get, ub, uB, of_, oF, e2, reps_byte, length_bs]; refine hK _ _ ?_; clear hK K
            refine ⟨?_, ?_⟩
            · simp [zs, kp, slot, Nat.beq, ub, length_bs, of_, bs_append, hL2]
            · simp [zs, uB, oF, length_bs, bs_append, bs_rep]
        · have h5 := of_decide_eq_false h
          have e1 : padN pads i = 0 := by unfold padN; rw [if_neg h5]
          refine PW.skip ⟨?_, ?_⟩
          · simp [e1, zs, kp, slot, Nat.beq]
          · simp [e1, zs]
      have hb : ((jS pads us i).1 ++ zs (padN pads i)).length ≤ i * 220 + 7 := by simp [zs]; omega
      have hj : jS pads us (i + 1) = ((jS pads us i).1 ++ zs (padN pads i) ++ (fmtR (un us i).1 (un us i).2).1, (jS pads us i).2 ++ [⟨(un us i).1, (un us i).2, ((jS pads us i).1 ++ zs (padN pads i)).length, ((jS pads us i).1 ++ zs (padN pads i)).length + (fmtR (un us i).1 (un us i).2).1.length, 0⟩]) := rfl
      generalize (jS pads us i).1 ++ zs (padN pads i) = b at *
      generalize (jS pads us i).2 = out at *
      refine PW.seq ?_; refine PW.rg rfl fun K hK => ?_; simp (disch := omega) only [go_sem, ↓reduceIte, reduceCtorEq, pappend, plen, uc_len, uc_take]; refine VC.call (format_ok (un us i).1 (un us i).2 false _ (by omega)) rfl rfl ?_; simp (disch := omega) only [go_sem, ↓reduceIte, reduceCtorEq, pappend, plen]; refine hK _ _ ?_; clear hK K
      rw [hu2]
      refine PW.seq (PW.seq ?_); refine PW.rg rfl fun K hK => ?_; simp (disch := omega) only [go_sem, ↓reduceIte, reduceCtorEq, pappend, plen]; refine hK _ _ ?_; clear hK K
      refine PW.cond (t := _) rfl (fun h => ?_) (fun h => ?_)
      · cases h
      refine PW.skip (PW.seq ?_); refine PW.rg rfl fun K hK => ?_; simp (disch := omega) only [go_sem, ↓reduceIte, reduceCtorEq, pappend, plen, uc_len, uc_take, ub, uB, of_, oF, fc_len, bv]; refine hK _ _ ?_; clear hK K
      refine PW.rg rfl fun K hK => ?_; simp (disch := omega) only [go_sem, ↓reduceIte, reduceCtorEq, pappend, plen, bv, length_bs]; refine hK _ _ ?_; clear hK K
      refine PW.rg rfl fun K hK => ?_; simp (disch := omega) only [go_sem, ↓reduceIte, reduceCtorEq, pappend, plen]; refine hK _ _ ?_; clear hK K
      refine PL.at [0, 1, 7, 8, 9] (ih (us.length - (i + 1)) (by omega) (i + 1) (by omega) rfl) ?_ ?_
      · rw [hj]; simp (disch := omega) only [go_sem, ↓reduceIte, reduceCtorEq, pappend, plen, ub, of_]; simp [bs_append, fc_append, fc, fd, bv, length_bs]
      · rw [hj]; simp [uB, oF, bs_append, fc_append, fc, fd, bv]
    · have h4 : i = us.length := by have := of_decide_eq_false h; omega
      clear ih hm h
      subst h4
      have hb : (jS pads us us.length).1 = jB pads us := rfl
      have hF : fixN (jB pads us).length (jS pads us us.length).2 = jF pads us := rfl
      rw [hb] at hL1
      simp only [hb]
      generalize (jS pads us us.length).2 = out at *
      generalize jB pads us = b at *
      refine PW.exit (PW.seq ?_); refine PW.seq ?_; refine PW.rg rfl fun K hK => ?_; simp (disch := omega) only [go_sem, ↓reduceIte, reduceCtorEq, pappend, plen]; refine hK _ _ ?_; clear hK K
      refine PW.block (PW.loop ?_)
      suffices hloop : ∀ (k : Nat), k ≤ out.length → PL Try.prog _ _ [(7, ub H.length b), (8, of_ (H.length + 1) (fc out).length ((fixN b.length out).take k ++ out.drop k)), (12, .int .i64 (k : Int))]
          (H ++ [uB b, oF (fc out).length ((fixN b.length out).take k ++ out.drop k)]) _ by
        refine PL.at [7, 8, 12] (hloop 0 (Nat.zero_le _)) ?_ ?_
        · simp (disch := omega) only [go_sem, ↓reduceIte, reduceCtorEq, pappend, plen, of_]; simp
        · simp
      intro k hk
      induction hm : out.length - k using Nat.strongRecOn generalizing k with
      | _ n ih =>
        have hfl := fixN_len b.length out
        have hcl : ((fixN b.length out).take k ++ out.drop k).length = out.length := by simp [hfl]; omega
        refine PL.round (PW.seq (PW.seq ?_)); refine PW.rg rfl fun K hK => ?_; simp (disch := omega) only [go_sem, ↓reduceIte, reduceCtorEq, pappend, plen, of_, oF, hcl]; refine hK _ _ ?_; clear hK K
        refine PW.cond (t := _) rfl (fun h => ?_) (fun h => ?_)
        · have h4 : k < out.length := by have := of_decide_eq_true h; omega
          have hm0 := mix_at b.length out k h4
          have hm1 := mix_at1 b.length out k h4
          have hms := mix_set b.length out k h4
          generalize (fixN b.length out).take k ++ out.drop k = L at *
          refine PW.skip (PW.seq (PW.block (PW.seq ?_))); refine PW.rg rfl fun K hK => ?_; simp (disch := omega) only [go_sem, ↓reduceIte, reduceCtorEq, pappend, plen, ub, uB, hcl, fc_len, fc_set]; refine hK _ _ ?_; clear hK K
          refine PW.seq ?_; refine PW.rg rfl fun K hK => ?_; simp (disch := omega) only [go_sem, ↓reduceIte, reduceCtorEq, pappend, plen, hcl, List.length_set]; refine hK _ _ ?_; clear hK K
          refine PW.cond (t := _) rfl (fun h => ?_) (fun h => ?_)
          · have h5 : k + 1 < out.length := by have := of_decide_eq_true h; omega
            have e : (k : Int) + 1 = ((k + 1 : Nat) : Int) := by omega
            have h2 : ∀ y, (fc (L.set k y))[(k + 1) * 5 + 2]? = some (.int .i64 (fn out (k + 1)).fr) := fun y => by rw [fc_2 _ _ (by rw [List.length_set]; omega), fn_set_ne _ _ _ _ (by omega), hm1]
            have h3 : ∀ y m, (fc (L.set k y)).set (k * 5 + 4) (.int .i64 (m : Nat)) = fc (L.set k { y with nx := m }) := fun y m => by rw [fc_set _ _ _ (by rw [List.length_set]; omega), fn_set_eq _ _ _ (by omega), List.set_set]
            refine PW.rg rfl fun K hK => ?_; simp (disch := omega) only [go_sem, ↓reduceIte, reduceCtorEq, pappend, plen, hcl, List.length_set, fc_len, h2, h3, e, hm0]; refine hK _ _ ?_; clear hK K
            refine PW.rg rfl fun K hK => ?_; simp (disch := omega) only [go_sem, ↓reduceIte, reduceCtorEq, pappend, plen]; refine hK _ _ ?_; clear hK K
            rw [if_pos h5] at hms
            refine PL.at [7, 8, 12] (ih (out.length - (k + 1)) (by omega) (k + 1) (by omega) rfl) ?_ ?_
            · rw [← hms]; simp (disch := omega) only [go_sem, ↓reduceIte, reduceCtorEq, pappend, plen, ub, of_, hcl, List.length_set, fc_len]; rfl
            · rw [← hms]; simp [uB, oF, fc_len, hm0]
          · have h5 : ¬ k + 1 < out.length := by have := of_decide_eq_false h; omega
            refine PW.skip ?_
            refine PW.rg rfl fun K hK => ?_; simp (disch := omega) only [go_sem, ↓reduceIte, reduceCtorEq, pappend, plen]; refine hK _ _ ?_; clear hK K
            rw [if_neg h5] at hms
            refine PL.at [7, 8, 12] (ih (out.length - (k + 1)) (by omega) (k + 1) (by omega) rfl) ?_ ?_
            · rw [← hms]; simp (disch := omega) only [go_sem, ↓reduceIte, reduceCtorEq, pappend, plen, ub, of_, hcl, List.length_set, fc_len]; rfl
            · rw [← hms]; simp [uB, oF, fc_len, hm0]
        · have h4 : k = out.length := by have := of_decide_eq_false h; omega
          subst h4
          refine PW.exit (PW.seq ?_); refine PW.rg rfl fun K hK => ?_; simp (disch := omega) only [go_sem, ↓reduceIte, reduceCtorEq, pappend, plen]; refine hK _ _ ?_; clear hK K
          refine PW.ret ⟨_, rfl, ?_⟩
          simp only [slot, Nat.beq, List.reverse_cons, List.reverse_nil, List.nil_append, List.cons_append]
          rw [List.take_of_length_le (by rw [hfl]; exact Nat.le_refl _), List.drop_length, List.append_nil, hF]
          rw [hF] at hfl
          rw [hfl]
          refine Fin.more (A := H) (L := [uB b]) (K := [oF (fc out).length (jF pads us)]) (L1 := [uB b]) (by simp [oF]) rfl (fun h => h) ⟨rfl, rfl, FzC.refl (bs_scoped _ _), trivial⟩ ?_
          refine Fz.tupC ⟨.id (.msl (id := H.length) (by simp)), ?_, .id (.bool _), trivial⟩
          refine Fz.mslC (e := 46) (xs := fc (jF pads us)) (by simp) ?_ ?_ ?_
          · simp [hp1, oF]
          · rw [fc_len, hfl]
          · exact FzC.refl (fc_scoped _ _)

end Go.Proofs.Ytdeehmdkpdgpfaa.Sc
