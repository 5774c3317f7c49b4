/-
  Parts of the proof. No condition.
-/
import Derived.Test.YtbhdollgohgkgaaDoorB10
import Derived.Test.YtbhdollgohgkgaaDoorB07
namespace Go.Proofs.YtbhdollgohgkgaaDoor.Sc
set_option linter.all false
set_option linter.unusedVariables false
set_option linter.unusedSimpArgs false
open Pm Ty Go.RowKit

theorem pic_scV (p : Pi) (n : Nat) : ∀ x ∈ pic p, Scoped n x := fun x hx => by
  simp only [pic, List.mem_cons, List.not_mem_nil, or_false] at hx
  rcases hx with rfl | rfl | rfl | rfl | rfl | rfl
  · exact .int _ _
  · exact .int _ _
  · exact .int _ _
  · exact .bool _
  · exact .bool _
  · exact .bool _
theorem flat_get {α : Type} (enc : α → List PV) (N : Nat) (l : List α) (k r : Nat) (hk : k < l.length) (hl : ∀ x ∈ l, (enc x).length = N) (hr : r < N) : (l.flatMap enc)[k * N + r]? = (enc l[k])[r]? := by
  rw [← flat_at enc N l k hk hl, List.getElem?_take, if_pos hr, List.getElem?_drop]
/-! ### units of a coded picture -/
def uq1 (u : Int × List UInt8) : List PV := [.int .i64 u.1, .slice (bs u.2) u.2.length false]
def uq (us : List (Int × List UInt8)) : List PV := us.flatMap uq1
theorem uq_len (us : List (Int × List UInt8)) : (uq us).length = us.length * 2 := flat_len uq1 2 us fun _ _ => rfl
theorem uq_at (us : List (Int × List UInt8)) (k : Nat) (hk : k < us.length) : List.take 2 (List.drop (k * 2) (uq us)) = uq1 us[k] := flat_at uq1 2 us k hk fun _ _ => rfl
theorem uq_1 (us : List (Int × List UInt8)) (k : Nat) (hk : k < us.length) : (uq us)[k * 2 + 1]? = some (.slice (bs us[k].2) us[k].2.length false) := flat_get uq1 2 us k 1 hk (fun _ _ => rfl) (by omega)
theorem uq_sc (n : Nat) (us : List (Int × List UInt8)) : ∀ x ∈ uq us, Scoped n x := fun x hx => by
  obtain ⟨u, _, hx⟩ := List.mem_flatMap.1 hx
  simp only [uq1, List.mem_cons, List.not_mem_nil, or_false] at hx
  rcases hx with rfl | rfl
  · exact .int _ _
  · exact sl_scoped (bs_scoped _ _)
def usr1 (u : List UInt8) : List PV := [.slice (bs u) u.length false]
def usr (U : List (List UInt8)) : PV := .slice (U.flatMap usr1) U.length false
theorem usr_sc (n : Nat) (U : List (List UInt8)) : Scoped n (usr U) := sl_scoped fun x hx => by
  obtain ⟨u, _, hx⟩ := List.mem_flatMap.1 hx
  simp only [usr1, List.mem_cons, List.not_mem_nil, or_false] at hx
  rw [hx]
  exact sl_scoped (bs_scoped _ _)
/-- A coded picture. -/
def cdc (p : Pi) (U : List (List UInt8)) (us : List (Int × List UInt8)) : List PV := pic p ++ [usr U, .slice (uq us) us.length false]
theorem cdc_len (p : Pi) (U : List (List UInt8)) (us : List (Int × List UInt8)) : (cdc p U us).length = 8 := rfl
theorem cdc_cell (p : Pi) (U : List (List UInt8)) (us : List (Int × List UInt8)) : (cdc p U us).all PV.cell = true := rfl
theorem cdc_p (p : Pi) (U : List (List UInt8)) (us : List (Int × List UInt8)) : List.take 6 (cdc p U us) = pic p := rfl
theorem cdc_7 (p : Pi) (U : List (List UInt8)) (us : List (Int × List UInt8)) : (cdc p U us)[7]? = some (.slice (uq us) us.length false) := rfl
theorem cdc_sc (n : Nat) (p : Pi) (U : List (List UInt8)) (us : List (Int × List UInt8)) : ∀ x ∈ cdc p U us, Scoped n x := fun x hx => by
  rcases List.mem_append.1 hx with hx | hx
  · exact pic_scV _ _ x hx
  · simp only [List.mem_cons, List.not_mem_nil, or_false] at hx
    rcases hx with rfl | rfl
    · exact usr_sc _ _
    · exact sl_scoped (uq_sc _ _)

/-! ### items -/
structure It where
  k : Int
  s : Sq
  gc : Bool
  gb : Bool
  gt : Int
  p : Pi
  U : List (List UInt8)
  us : List (Int × List UInt8)
  pad : Int
def itc (x : It) : List PV := .int .i64 x.k :: (sqc x.s ++ (.bool x.gc :: .bool x.gb :: .int .i64 x.gt :: (cdc x.p x.U x.us ++ [.int .i64 x.pad])))
structure ItOk (x : It) : Prop where
  s : SqOk x.s
  k : i64r x.k
  gt : i64r x.gt
  pad : i64r x.pad
  ut : ∀ u ∈ x.us, i64r u.1
theorem sqc_l (s : Sq) (hs : SqOk s) : (sqc s).length = 135 := by
  simp [sqc, length_bs, hs.ia, hs.ie]
theorem itc_len (x : It) (h : SqOk x.s) : (itc x).length = 148 := by
  simp only [itc, List.length_cons, List.length_append, sqc_l x.s h, cdc_len, List.length_nil]
theorem itc_cell (x : It) : (itc x).all PV.cell = true := by
  simp [itc, sqc, bs, cdc, pic, usr, PV.cell]
theorem itc_0 (x : It) : (itc x)[0]? = some (.int .i64 x.k) := rfl
theorem itc_s (x : It) (h : SqOk x.s) : List.take 135 (List.drop 1 (itc x)) = sqc x.s := by
  show List.take 135 (sqc x.s ++ _) = _
  exact List.take_left' (sqc_l x.s h)
theorem itc_d (x : It) (h : SqOk x.s) (n : Nat) : List.drop (136 + n) (itc x) = List.drop n (.bool x.gc :: .bool x.gb :: .int .i64 x.gt :: (cdc x.p x.U x.us ++ [.int .i64 x.pad])) := by
  have e : List.drop 136 (itc x) = .bool x.gc :: .bool x.gb :: .int .i64 x.gt :: (cdc x.p x.U x.us ++ [.int .i64 x.pad]) := by
    show List.drop 135 (sqc x.s ++ _) = _
    exact List.drop_left' (sqc_l x.s h)
  rw [← List.drop_drop, e]
theorem itc_g (x : It) (h : SqOk x.s) : List.take 3 (List.drop 136 (itc x)) = [.bool x.gc, .bool x.gb, .int .i64 x.gt] := by
  have := itc_d x h 0
  rw [this]; rfl
theorem itc_c (x : It) (h : SqOk x.s) : List.take 8 (List.drop 139 (itc x)) = cdc x.p x.U x.us := by
  have := itc_d x h 3
  rw [this]; rfl
theorem itc_p (x : It) (h : SqOk x.s) : List.take 6 (List.drop 139 (itc x)) = pic x.p := by
  have := itc_d x h 3
  rw [this]; rfl
theorem itc_at (x : It) (h : SqOk x.s) (n : Nat) : (itc x)[136 + n]? = (.bool x.gc :: .bool x.gb :: .int .i64 x.gt :: (cdc x.p x.U x.us ++ [.int .i64 x.pad]))[n]? := by
  have := congrArg (·[0]?) (itc_d x h n)
  simpa using this
theorem itc_u (x : It) (h : SqOk x.s) : (itc x)[145]? = some (usr x.U) := itc_at x h 9
theorem itc_us (x : It) (h : SqOk x.s) : (itc x)[146]? = some (.slice (uq x.us) x.us.length false) := itc_at x h 10
theorem itc_pad (x : It) (h : SqOk x.s) : (itc x)[147]? = some (.int .i64 x.pad) := itc_at x h 11
theorem itc_sc (n : Nat) (x : It) : ∀ y ∈ itc x, Scoped n y := fun y hy => by
  simp only [itc, List.mem_cons, List.mem_append, List.not_mem_nil, or_false] at hy
  rcases hy with rfl | hy | rfl | rfl | rfl | hy | rfl
  · exact .int _ _
  · exact sqc_scoped _ _ y hy
  · exact .bool _
  · exact .bool _
  · exact .int _ _
  · exact cdc_sc _ _ _ _ y hy
  · exact .int _ _

end Go.Proofs.YtbhdollgohgkgaaDoor.Sc

namespace Go.Proofs.YtbhdollgohgkgaaDoor.Lg
set_option linter.all false
set_option linter.unusedVariables false
set_option linter.unusedSimpArgs false
open Go.ChangeShapes Go.WideShapes Go.ChangeAt Go.RowKit Pm Sc Lp

theorem shp_group {ps : List PV} (h : Shp Tryd.prog 31 ps) : ∃ (c b : Bool) (t : Int), ps = [.bool c, .bool b, .int .i64 t] ∧ (-9223372036854775808 ≤ t ∧ t ≤ 9223372036854775807) := by
  obtain ⟨pss, rfl, hf⟩ := h.fields Tryd.underlying31
  match pss, hf with
  | [a, b, c], ⟨ha, hb, hc, _⟩ =>
    obtain ⟨a, rfl⟩ := shp_bool ha
    obtain ⟨b, rfl⟩ := shp_bool hb
    obtain ⟨c, rfl, h3⟩ := shp_int hc
    exact ⟨a, b, c, rfl, h3⟩
theorem shp_coded {ps : List PV} (h : Shp Tryd.prog 37 ps) : ∃ (p : Pi) (U : List (List UInt8)) (us : List (Int × List UInt8)), ps = cdc p U us ∧ U.length ≤ maxLen ∧ us.length ≤ maxLen ∧ ∀ u ∈ us, i64r u.1 := by
  obtain ⟨pss, rfl, hf⟩ := h.fields Tryd.underlying37
  match pss, hf with
  | [p, u, l], ⟨hp, hu, hl, _⟩ =>
    obtain ⟨p, rfl, _⟩ := shp_pic hp
    obtain ⟨U, rfl, hU, _⟩ := hu.of_list (enc := usr1) (good := fun _ => True) Tryd.underlying34 (fun q hq => by
      obtain ⟨x, rfl⟩ := shp_bytes hq
      exact ⟨x, rfl, trivial⟩)
    obtain ⟨us, rfl, hm, hg⟩ := hl.of_list (enc := uq1) (good := fun u => i64r u.1) Tryd.underlying35 (fun q hq => by
      obtain ⟨t, x, rfl, ht⟩ := shp_unit hq
      exact ⟨(t, x), rfl, ht⟩)
    exact ⟨p, U, us, rfl, hU, hm, hg⟩
theorem shp_item {ps : List PV} (h : Shp Tryd.prog 39 ps) : ∃ x : It, ps = itc x ∧ ItOk x := by
  obtain ⟨pss, rfl, hf⟩ := h.fields Tryd.underlying39
  match pss, hf with
  | [k, s, g, c, p], ⟨hk, hs, hg, hc, hp, _⟩ =>
    obtain ⟨k, rfl, h1⟩ := shp_int hk
    obtain ⟨s, rfl, h2⟩ := shp_seq hs
    obtain ⟨gc, gb, gt, rfl, h3⟩ := shp_group hg
    obtain ⟨p, U, us, rfl, _, _, h4⟩ := shp_coded hc
    obtain ⟨n, rfl, h5⟩ := shp_int hp
    exact ⟨⟨k, s, gc, gb, gt, p, U, us, n⟩, by simp [itc], ⟨h2, h1, h3, h5, h4⟩⟩
theorem shp_items {ps : List PV} (h : Shp Tryd.prog 22 ps) : ∃ l : List It, ps = [.slice (l.flatMap itc) l.length false] ∧ ∀ x ∈ l, ItOk x := by
  obtain ⟨l, rfl, _, hg⟩ := h.of_list (enc := itc) (good := ItOk) Tryd.underlying22 (fun q hq => shp_item hq)
  exact ⟨l, rfl, hg⟩

end Go.Proofs.YtbhdollgohgkgaaDoor.Lg

namespace Go.Proofs.YtbhdollgohgkgaaDoor.Sc
set_option linter.all false
set_option linter.unusedVariables false
set_option linter.unusedSimpArgs false
open Pm Ty Go.RowKit

theorem usr_at (U : List (List UInt8)) (k : Nat) (hk : k < U.length) : (U.flatMap usr1)[k]? = some (.slice (bs U[k]) U[k].length false) := by
  have := flat_get usr1 1 U k 0 hk (fun _ _ => rfl) (by omega)
  rwa [Nat.mul_one, Nat.add_zero] at this
theorem usr_l (U : List (List UInt8)) : (U.flatMap usr1).length = U.length := by
  rw [flat_len usr1 1 U fun _ _ => rfl, Nat.mul_one]

def itL (l : List It) : List PV := l.flatMap itc
theorem itL_len (l : List It) (h : ∀ x ∈ l, SqOk x.s) : (itL l).length = l.length * 148 := flat_len itc 148 l fun x hx => itc_len x (h x hx)
theorem itL_at (l : List It) (h : ∀ x ∈ l, SqOk x.s) (k : Nat) (hk : k < l.length) : List.take 148 (List.drop (k * 148) (itL l)) = itc l[k] := flat_at itc 148 l k hk fun x hx => itc_len x (h x hx)
theorem itL_get (l : List It) (h : ∀ x ∈ l, SqOk x.s) (k r : Nat) (hk : k < l.length) (hr : r < 148) : (itL l)[k * 148 + r]? = (itc l[k])[r]? := flat_get itc 148 l k r hk (fun x hx => itc_len x (h x hx)) hr
theorem itL_sc (n : Nat) (l : List It) : ∀ x ∈ itL l, Scoped n x := fun x hx => by
  obtain ⟨u, _, hx⟩ := List.mem_flatMap.1 hx
  exact itc_sc _ _ x hx
theorem itL_sub (l : List It) (h : ∀ x ∈ l, SqOk x.s) (k r n : Nat) (hk : k < l.length) (hr : r + n ≤ 148) : List.take n (List.drop (k * 148 + r) (itL l)) = List.take n (List.drop r (itc l[k])) := by
  rw [← itL_at l h k hk, List.drop_take, List.take_take, Nat.min_eq_left (by omega), List.drop_drop]
def padB (x : It) : Bool := !(decide (5000 < x.pad) && decide (x.pad ≤ 1048576))
def ltI (x : It) : Bool := (padB x && (decide (x.U.length ≤ 4) && decide (x.us.length ≤ 8))) && ((x.U.all fun u => decide (u.length ≤ 400)) && (x.us.all fun u => decide (u.2.length ≤ 3000)))
def ltB (l : List It) : Bool := decide (l.length ≤ 60) && l.all ltI
theorem all_dropL {α : Type} (f : α → Bool) (l : List α) (j : Nat) (h : j < l.length) : (l.drop j).all f = (f l[j] && (l.drop (j + 1)).all f) := by
  rw [List.drop_eq_getElem_cons h]; rfl

set_option maxHeartbeats 8000000 in
set_option maxRecDepth 100000 in
theorem light12 (l : List It) (f : Bool) (H : Heap) (hs : ∀ x ∈ l, SqOk x.s) : CallOk Tryd.prog 4 [.slice (itL l) l.length f] H (.bool (ltB l)) H := by
  have ln := itL_len l hs
  have fin : ∀ (b : Bool) (K : Heap), Fin H (.bool b) H (.bool b) (H ++ K) := fun b K => Fin.base (.id (.bool _))
  have fin0 : ∀ (b : Bool), Fin H (.bool b) H (.bool b) H := fun b => Fin.now
  unfold ltB
  refine CallOk.body (F0 := [(0, .slice (itL l) l.length f)]) Tryd.func4 rfl Tryd.ntmps4 Tryd.results4 rfl (by kernel_rfl) rfl ?_
  (repeat refine PW.seq ?_); refine PW.rg rfl fun K hK => ?_; simp (maxSteps := 3000000) (disch := omega) only [go_sem, ↓reduceIte, reduceCtorEq, pappend, plen]; refine hK _ _ ?_; clear hK K
  (repeat refine PW.seq ?_); refine PW.rg rfl fun K hK => ?_; simp (maxSteps := 3000000) (disch := omega) only [go_sem, ↓reduceIte, reduceCtorEq, pappend, plen]; refine hK _ _ ?_; clear hK K
  by_cases h60 : l.length ≤ 60
  rotate_left
  · have d1 : decide ((60 : Int) < (l.length : Int)) = true := decide_eq_true (by omega)
    (repeat refine PW.seq ?_); refine PW.cond (t := _) rfl (fun h => ?_) (fun h => ?_)
    rotate_left
    · simp_all
    rw [decide_eq_false h60, Bool.false_and]
    (repeat refine PW.seq ?_); refine PW.rg rfl fun K hK => ?_; simp (maxSteps := 3000000) (disch := omega) only [go_sem, ↓reduceIte, reduceCtorEq, pappend, plen]; refine hK _ _ ?_; clear hK K
    refine PW.ret ⟨.bool false, by simp (maxSteps := 3000000) (disch := omega) only [go_sem, ↓reduceIte, reduceCtorEq, pappend, plen, presults, presult, List.mapM_cons, List.mapM_nil, Option.pure_def, Option.bind_eq_bind, Option.bind_some, Array.toList], ?_⟩
    exact fin0 _
  have d1 : decide ((60 : Int) < (l.length : Int)) = false := decide_eq_false (by omega)
  (repeat refine PW.seq ?_); refine PW.cond (t := _) rfl (fun h => ?_) (fun h => ?_)
  · simp_all
  rw [decide_eq_true h60, Bool.true_and]
  refine PW.skip ?_
  (repeat refine PW.seq ?_); refine PW.rg rfl fun K hK => ?_; simp (maxSteps := 3000000) (disch := omega) only [go_sem, ↓reduceIte, reduceCtorEq, pappend, plen]; refine hK _ _ ?_; clear hK K
  (repeat refine PW.seq ?_); refine PW.block (PW.loop ?_)
  suffices hl1 : ∀ j : Nat, j ≤ l.length → (l.drop j).all ltI = l.all ltI → PL Tryd.prog _ _ [(0, .slice (itL l) l.length f), (3, .int .i64 (j : Int))] H _ by
    exact PL.at [0, 3] (hl1 0 (by omega) rfl) rfl rfl
  intro j hj hf
  induction hd : l.length - j using Nat.strongRecOn generalizing j with
  | _ d ih =>
    refine PL.round ?_; (repeat refine PW.seq ?_); refine PW.rg rfl fun K hK => ?_; simp (maxSteps := 3000000) (disch := omega) only [go_sem, ↓reduceIte, reduceCtorEq, pappend, plen]; refine hK _ _ ?_; clear hK K
    (repeat refine PW.seq ?_); refine PW.cond (t := _) rfl (fun h => ?_) (fun h => ?_)
    · have hjl : j < l.length := by simp_all
      have ip := itL_get l hs j 147 hjl (by omega)
      have hc := itL_sub l hs j 139 8 hjl (by omega)
      have hx := hs l[j] (List.getElem_mem hjl)
      rw [itc_pad _ hx] at ip
      rw [itc_c _ hx] at hc
      rw [all_dropL ltI l j hjl] at hf
      have hnext := fun hf => ih (l.length - (j + 1)) (by omega) (j + 1) (by omega) hf rfl
      generalize l[j] = x at *
      refine PW.skip ?_; (repeat refine PW.seq ?_); refine PW.block ?_
      have c1 := cdc_cell x.p x.U x.us
      have c2 := cdc_len x.p x.U x.us
      have c6 : (cdc x.p x.U x.us)[6]? = some (usr x.U) := rfl
      have c7 := cdc_7 x.p x.U x.us
      have c8 : List.drop 8 (cdc x.p x.U x.us) = [] := rfl
      have ul := usr_l x.U
      have ql := uq_len x.us
      (repeat refine PW.seq ?_); refine PW.rg rfl fun K hK => ?_; simp (maxSteps := 3000000) (disch := omega) only [go_sem, ↓reduceIte, reduceCtorEq, pappend, plen, ln, hc, c1, c2, c8, List.append_nil]; refine hK _ _ ?_; clear hK K
      suffices hrest : PW Tryd.prog _ _ [(0, .slice (itL l) l.length f), (3, .int .i64 (j : Int)), (4, .ptr H.length 0 0), (46, .bool (!(padB x && (decide (x.U.length ≤ 4) && decide (x.us.length ≤ 8)))))] (H ++ [⟨37, 0, cdc x.p x.U x.us⟩]) _ by
        unfold padB at hrest
        by_cases p1 : 5000 < x.pad
        · have e1 : decide (5000 < x.pad) = true := decide_eq_true p1
          by_cases p2 : x.pad ≤ 1048576
          · have e2 : decide (x.pad ≤ 1048576) = true := decide_eq_true p2
            rw [e1, e2] at hrest
            (repeat refine PW.seq ?_); refine PW.rg rfl fun K hK => ?_; simp (maxSteps := 3000000) (disch := omega) only [go_sem, ↓reduceIte, reduceCtorEq, pappend, plen, ln, ip, e1, e2]; refine hK _ _ ?_; clear hK K
            exact PW.at [0, 3, 4, 46] hrest rfl rfl
          · have e2 : decide (x.pad ≤ 1048576) = false := decide_eq_false p2
            rw [e1, e2] at hrest
            by_cases p3 : x.U.length ≤ 4
            · have e3 : decide ((4 : Int) < (x.U.length : Int)) = false := decide_eq_false (by omega)
              have e4 : decide ((8 : Int) < (x.us.length : Int)) = !decide (x.us.length ≤ 8) := by rw [Bool.eq_iff_iff]; simp; omega
              rw [decide_eq_true p3] at hrest
              (repeat refine PW.seq ?_); refine PW.rg rfl fun K hK => ?_; simp (maxSteps := 3000000) (disch := omega) only [go_sem, ↓reduceIte, reduceCtorEq, pappend, plen, ln, ip, e1, e2, c2, c6, usr, c7, e3, e4]; refine hK _ _ ?_; clear hK K
              exact PW.at [0, 3, 4, 46] hrest (by simp [kp, slot, Nat.beq]) rfl
            · have e3 : decide ((4 : Int) < (x.U.length : Int)) = true := decide_eq_true (by omega)
              rw [decide_eq_false p3] at hrest
              (repeat refine PW.seq ?_); refine PW.rg rfl fun K hK => ?_; simp (maxSteps := 3000000) (disch := omega) only [go_sem, ↓reduceIte, reduceCtorEq, pappend, plen, ln, ip, e1, e2, c2, c6, usr, c7, e3]; refine hK _ _ ?_; clear hK K
              exact PW.at [0, 3, 4, 46] hrest (by simp [kp, slot, Nat.beq]) rfl
        · have e1 : decide (5000 < x.pad) = false := decide_eq_false p1
          rw [e1] at hrest
          by_cases p3 : x.U.length ≤ 4
          · have e3 : decide ((4 : Int) < (x.U.length : Int)) = false := decide_eq_false (by omega)
            have e4 : decide ((8 : Int) < (x.us.length : Int)) = !decide (x.us.length ≤ 8) := by rw [Bool.eq_iff_iff]; simp; omega
            rw [decide_eq_true p3] at hrest
            (repeat refine PW.seq ?_); refine PW.rg rfl fun K hK => ?_; simp (maxSteps := 3000000) (disch := omega) only [go_sem, ↓reduceIte, reduceCtorEq, pappend, plen, ln, ip, e1, c2, c6, usr, c7, e3, e4]; refine hK _ _ ?_; clear hK K
            exact PW.at [0, 3, 4, 46] hrest (by simp [kp, slot, Nat.beq]) rfl
          · have e3 : decide ((4 : Int) < (x.U.length : Int)) = true := decide_eq_true (by omega)
            rw [decide_eq_false p3] at hrest
            (repeat refine PW.seq ?_); refine PW.rg rfl fun K hK => ?_; simp (maxSteps := 3000000) (disch := omega) only [go_sem, ↓reduceIte, reduceCtorEq, pappend, plen, ln, ip, e1, c2, c6, usr, c7, e3]; refine hK _ _ ?_; clear hK K
            exact PW.at [0, 3, 4, 46] hrest (by simp [kp, slot, Nat.beq]) rfl
      unfold ltI at hf
      cases hA : (padB x && (decide (x.U.length ≤ 4) && decide (x.us.length ≤ 8))) with
      | false =>
        rw [hA, Bool.false_and, Bool.false_and] at hf
        (repeat refine PW.seq ?_); refine PW.cond (t := _) rfl (fun h => ?_) (fun h => ?_)
        rotate_left
        · cases h
        (repeat refine PW.seq ?_); refine PW.rg rfl fun K hK => ?_; simp (maxSteps := 3000000) (disch := omega) only [go_sem, ↓reduceIte, reduceCtorEq, pappend, plen]; refine hK _ _ ?_; clear hK K
        refine PW.ret ⟨.bool false, by simp (maxSteps := 3000000) (disch := omega) only [go_sem, ↓reduceIte, reduceCtorEq, pappend, plen, presults, presult, List.mapM_cons, List.mapM_nil, Option.pure_def, Option.bind_eq_bind, Option.bind_some, Array.toList], ?_⟩
        rw [show (l.all ltI) = false from hf.symm]
        exact fin _ _
      | true =>
        rw [hA, Bool.true_and] at hf
        simp only [Bool.and_eq_true, decide_eq_true_eq] at hA
        obtain ⟨_, hU4, hu8⟩ := hA
        (repeat refine PW.seq ?_); refine PW.cond (t := _) rfl (fun h => ?_) (fun h => ?_)
        · cases h
        refine PW.skip ?_
        (repeat refine PW.seq ?_); refine PW.rg rfl fun K hK => ?_; simp (maxSteps := 3000000) (disch := omega) only [go_sem, ↓reduceIte, reduceCtorEq, pappend, plen]; refine hK _ _ ?_; clear hK K
        (repeat refine PW.seq ?_); refine PW.block (PW.loop ?_)
        suffices hl2 : ∀ k : Nat, k ≤ x.U.length → ((((x.U.drop k).all fun u => decide (u.length ≤ 400)) && (x.us.all fun u => decide (u.2.length ≤ 3000))) && (l.drop (j + 1)).all ltI) = l.all ltI → PL Tryd.prog _ _ [(0, .slice (itL l) l.length f), (3, .int .i64 (j : Int)), (4, .ptr H.length 0 0), (5, .int .i64 (k : Int))] (H ++ [⟨37, 0, cdc x.p x.U x.us⟩]) _ by
          exact PL.at [0, 3, 4, 5] (hl2 0 (by omega) hf) rfl rfl
        clear hf
        intro k hk hf
        induction hd2 : x.U.length - k using Nat.strongRecOn generalizing k with
        | _ d2 ih2 =>
          refine PL.round ?_; (repeat refine PW.seq ?_); refine PW.rg rfl fun K hK => ?_; simp (maxSteps := 3000000) (disch := omega) only [go_sem, ↓reduceIte, reduceCtorEq, pappend, plen, c2, c6, usr]; refine hK _ _ ?_; clear hK K
          (repeat refine PW.seq ?_); refine PW.cond (t := _) rfl (fun h => ?_) (fun h => ?_)
          · have hkU : k < x.U.length := by grind
            have ua := usr_at x.U k hkU
            rw [all_dropL _ x.U k hkU] at hf
            have hn2 := fun hf => ih2 (x.U.length - (k + 1)) (by omega) (k + 1) (by omega) hf rfl
            generalize x.U[k] = u at *
            refine PW.skip ?_; (repeat refine PW.seq ?_); refine PW.block ?_
            by_cases h4 : u.length ≤ 400
            · have d4 : decide ((400 : Int) < (u.length : Int)) = false := decide_eq_false (by omega)
              rw [decide_eq_true h4, Bool.true_and] at hf
              (repeat refine PW.seq ?_); refine PW.rg rfl fun K hK => ?_; simp (maxSteps := 3000000) (disch := omega) only [go_sem, ↓reduceIte, reduceCtorEq, pappend, plen, c2, c6, usr, ua, ul, d4]; refine hK _ _ ?_; clear hK K
              (repeat refine PW.seq ?_); refine PW.cond (t := _) rfl (fun h => ?_) (fun h => ?_)
              · cases h
              refine PW.skip ?_
              (repeat refine PW.seq ?_); refine PW.rg rfl fun K hK => ?_; simp (maxSteps := 3000000) (disch := omega) only [go_sem, ↓reduceIte, reduceCtorEq, pappend, plen]; refine hK _ _ ?_; clear hK K
              exact PL.at [0, 3, 4, 5] (hn2 hf) rfl rfl
            · have d4 : decide ((400 : Int) < (u.length : Int)) = true := decide_eq_true (by omega)
              rw [decide_eq_false h4, Bool.false_and, Bool.false_and, Bool.false_and] at hf
              (repeat refine PW.seq ?_); refine PW.rg rfl fun K hK => ?_; simp (maxSteps := 3000000) (disch := omega) only [go_sem, ↓reduceIte, reduceCtorEq, pappend, plen, c2, c6, usr, ua, ul, d4]; refine hK _ _ ?_; clear hK K
              (repeat refine PW.seq ?_); refine PW.cond (t := _) rfl (fun h => ?_) (fun h => ?_)
              rotate_left
              · cases h
              (repeat refine PW.seq ?_); refine PW.rg rfl fun K hK => ?_; simp (maxSteps := 3000000) (disch := omega) only [go_sem, ↓reduceIte, reduceCtorEq, pappend, plen]; refine hK _ _ ?_; clear hK K
              refine PW.ret ⟨.bool false, by simp (maxSteps := 3000000) (disch := omega) only [go_sem, ↓reduceIte, reduceCtorEq, pappend, plen, presults, presult, List.mapM_cons, List.mapM_nil, Option.pure_def, Option.bind_eq_bind, Option.bind_some, Array.toList], ?_⟩
              rw [← hf]
              exact fin _ _
          · have hkU : k = x.U.length := by grind
            rw [hkU, List.drop_length, List.all_nil, Bool.true_and] at hf
            refine PW.exit ?_
            clear ih2
            (repeat refine PW.seq ?_); refine PW.rg rfl fun K hK => ?_; simp (maxSteps := 3000000) (disch := omega) only [go_sem, ↓reduceIte, reduceCtorEq, pappend, plen]; refine hK _ _ ?_; clear hK K
            (repeat refine PW.seq ?_); refine PW.block (PW.loop ?_)
            suffices hl3 : ∀ k : Nat, k ≤ x.us.length → (((x.us.drop k).all fun u => decide (u.2.length ≤ 3000)) && (l.drop (j + 1)).all ltI) = l.all ltI → PL Tryd.prog _ _ [(0, .slice (itL l) l.length f), (3, .int .i64 (j : Int)), (4, .ptr H.length 0 0), (6, .int .i64 (k : Int))] (H ++ [⟨37, 0, cdc x.p x.U x.us⟩]) _ by
              exact PL.at [0, 3, 4, 6] (hl3 0 (by omega) hf) rfl rfl
            clear hf hkU hk h hd2
            intro k hk hf
            induction hd3 : x.us.length - k using Nat.strongRecOn generalizing k with
            | _ d3 ih3 =>
              refine PL.round ?_; (repeat refine PW.seq ?_); refine PW.rg rfl fun K hK => ?_; simp (maxSteps := 3000000) (disch := omega) only [go_sem, ↓reduceIte, reduceCtorEq, pappend, plen, c2, c7]; refine hK _ _ ?_; clear hK K
              (repeat refine PW.seq ?_); refine PW.cond (t := _) rfl (fun h => ?_) (fun h => ?_)
              · have hku : k < x.us.length := by grind
                have u1 := uq_1 x.us k hku
                rw [all_dropL _ x.us k hku] at hf
                have hn3 := fun hf => ih3 (x.us.length - (k + 1)) (by omega) (k + 1) (by omega) hf rfl
                generalize x.us[k] = u at *
                refine PW.skip ?_; (repeat refine PW.seq ?_); refine PW.block ?_
                by_cases h4 : u.2.length ≤ 3000
                · have d4 : decide ((3000 : Int) < (u.2.length : Int)) = false := decide_eq_false (by omega)
                  rw [decide_eq_true h4, Bool.true_and] at hf
                  (repeat refine PW.seq ?_); refine PW.rg rfl fun K hK => ?_; simp (maxSteps := 3000000) (disch := omega) only [go_sem, ↓reduceIte, reduceCtorEq, pappend, plen, c2, c7, u1, ql, d4]; refine hK _ _ ?_; clear hK K
                  (repeat refine PW.seq ?_); refine PW.cond (t := _) rfl (fun h => ?_) (fun h => ?_)
                  · cases h
                  refine PW.skip ?_
                  (repeat refine PW.seq ?_); refine PW.rg rfl fun K hK => ?_; simp (maxSteps := 3000000) (disch := omega) only [go_sem, ↓reduceIte, reduceCtorEq, pappend, plen]; refine hK _ _ ?_; clear hK K
                  exact PL.at [0, 3, 4, 6] (hn3 hf) rfl rfl
                · have d4 : decide ((3000 : Int) < (u.2.length : Int)) = true := decide_eq_true (by omega)
                  rw [decide_eq_false h4, Bool.false_and, Bool.false_and] at hf
                  (repeat refine PW.seq ?_); refine PW.rg rfl fun K hK => ?_; simp (maxSteps := 3000000) (disch := omega) only [go_sem, ↓reduceIte, reduceCtorEq, pappend, plen, c2, c7, u1, ql, d4]; refine hK _ _ ?_; clear hK K
                  (repeat refine PW.seq ?_); refine PW.cond (t := _) rfl (fun h => ?_) (fun h => ?_)
                  rotate_left
                  · cases h
                  (repeat refine PW.seq ?_); refine PW.rg rfl fun K hK => ?_; simp (maxSteps := 3000000) (disch := omega) only [go_sem, ↓reduceIte, reduceCtorEq, pappend, plen]; refine hK _ _ ?_; clear hK K
                  refine PW.ret ⟨.bool false, by simp (maxSteps := 3000000) (disch := omega) only [go_sem, ↓reduceIte, reduceCtorEq, pappend, plen, presults, presult, List.mapM_cons, List.mapM_nil, Option.pure_def, Option.bind_eq_bind, Option.bind_some, Array.toList], ?_⟩
                  rw [← hf]
                  exact fin _ _
              · have hku : k = x.us.length := by grind
                rw [hku, List.drop_length, List.all_nil, Bool.true_and] at hf
                refine PW.exit ?_
                (repeat refine PW.seq ?_); refine PW.rg rfl fun K hK => ?_; simp (maxSteps := 3000000) (disch := omega) only [go_sem, ↓reduceIte, reduceCtorEq, pappend, plen]; refine hK _ _ ?_; clear hK K
                refine PL.keep [0, 3] ?_
                refine PL.view (Vs.trim (F1 := [(0, .slice (itL l) l.length f), (3, .int .i64 ((j + 1 : Nat) : Int))]) (H1 := H) (fun h => h) (Nat.le_refl _) rfl ?_) (hnext hf)
                exact ⟨.id (sl_scoped (itL_sc _ _)), .id (.int _ _), trivial⟩
    · have hjl : j = l.length := by grind
      subst hjl
      rw [List.drop_length] at hf
      rw [← hf]
      refine PW.exit ?_
      (repeat refine PW.seq ?_); refine PW.rg rfl fun K hK => ?_; simp (maxSteps := 3000000) (disch := omega) only [go_sem, ↓reduceIte, reduceCtorEq, pappend, plen]; refine hK _ _ ?_; clear hK K
      refine PW.ret ⟨.bool true, by simp (maxSteps := 3000000) (disch := omega) only [go_sem, ↓reduceIte, reduceCtorEq, pappend, plen, presults, presult, List.mapM_cons, List.mapM_nil, Option.pure_def, Option.bind_eq_bind, Option.bind_some, Array.toList], ?_⟩
      exact fin0 _

end Go.Proofs.YtbhdollgohgkgaaDoor.Sc
