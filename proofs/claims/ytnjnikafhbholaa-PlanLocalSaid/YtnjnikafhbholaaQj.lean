/-
  Contracts of chapter 31: which frames of a film are candidates.
-/
import Derived.Test.YtnjnikafhbholaaQi
import Derived.Test.YtnjnikafhbholaaQf
namespace Go.Proofs.Ytnjnikafhbholaa.Sc
set_option linter.all false
set_option linter.unusedVariables false
set_option linter.unusedSimpArgs false
open Pm Ty Go.RowKit
open Pl (Pa Sh bump lastC bump_snoc lastC_snoc arr sh kd adj st en)

def ixAt (M : List Ix) (k : Nat) : Ix := M.getD k ix0
/-- The first of the first n indexes that has a name. -/
def fnd (M : List Ix) (s : List UInt8) : Nat → Option Nat
  | 0 => none
  | n + 1 => match fnd M s n with
    | some k => some k
    | none => if (ixAt M n).nm = s then some n else none
theorem fnd_lt {M : List Ix} {s : List UInt8} : ∀ {n k : Nat}, fnd M s n = some k → k < n ∧ (ixAt M k).nm = s
  | 0, k, h => by cases h
  | n + 1, k, h => by
    simp only [fnd] at h
    cases hf : fnd M s n with
    | some q => rw [hf] at h; cases h; have := fnd_lt hf; exact ⟨by omega, this.2⟩
    | none =>
      rw [hf] at h
      dsimp only at h
      split at h
      · rename_i he; cases h; exact ⟨by omega, he⟩
      · cases h
def mpe (s : List UInt8) (k : Nat) : PV := .tup [.str s, .int .i64 (k : Int)]
/-- The entries of the map after n indexes. -/
def mpc (M : List Ix) : Nat → List PV
  | 0 => []
  | n + 1 => match fnd M (ixAt M n).nm n with
    | some _ => mpc M n
    | none => mpc M n ++ [mpe (ixAt M n).nm n]
theorem pfind_snoc (d : TypeDesc) (k a v : PV) : ∀ (xs : List PV) (i : Nat), pfind d k (xs ++ [.tup [a, v]]) i = match pfind d k xs i with
    | some (some r) => some (some r)
    | some none => (match peqS d k a with | some true => some (some (i + xs.length, v)) | some false => some none | none => none)
    | none => none
  | [], i => by
    simp only [List.nil_append, pfind, List.length_nil, Nat.add_zero]
    cases peqS d k a with
    | none => rfl
    | some t => cases t <;> rfl
  | x :: r, i => by
    rw [List.cons_append]
    have ih := pfind_snoc d k a v r (i + 1)
    match x with
    | .tup [b, u] =>
      simp only [pfind]
      cases peqS d k b with
      | none => rfl
      | some t =>
        cases t with
        | true => rfl
        | false =>
          dsimp only
          rw [ih, show i + 1 + r.length = i + (.tup [b, u] :: r : List PV).length by simp; omega]
    | .tup [] => rfl
    | .tup [_] => rfl
    | .tup (_ :: _ :: _ :: _) => rfl
    | .int _ _ => rfl
    | .bool _ => rfl
    | .str _ => rfl
    | .nilp => rfl
    | .nl _ => rfl
    | .undef => rfl
    | .ptr _ _ _ => rfl
    | .ip _ _ => rfl
    | .slice _ _ _ => rfl
    | .msl _ _ _ _ _ _ => rfl
    | .mp _ _ => rfl
    | .agg _ => rfl
    | .func _ _ _ => rfl
theorem zr_int : zrT Try.prog 3 = some (.int .i64 0) := by kernel_rfl
theorem peqS_str (s a : List UInt8) : peqS .string (.str s) (.str a) = some (s == a) := rfl
theorem mpc_find (M : List Ix) (s : List UInt8) : ∀ n, (fnd M s n = none → pfind .string (.str s) (mpc M n) 0 = some none) ∧ ∀ k, fnd M s n = some k → ∃ p, pfind .string (.str s) (mpc M n) 0 = some (some (p, .int .i64 (k : Int)))
  | 0 => ⟨fun _ => rfl, fun k h => by cases h⟩
  | n + 1 => by
    obtain ⟨i1, i2⟩ := mpc_find M s n
    simp only [fnd, mpc]
    cases hf : fnd M s n with
    | some q =>
      obtain ⟨p, hp⟩ := i2 q hf
      refine ⟨fun h => (by cases h), fun k h => ?_⟩
      cases h
      cases fnd M (ixAt M n).nm n with
      | some _ => exact ⟨p, hp⟩
      | none =>
        refine ⟨p, ?_⟩
        unfold mpe
        rw [pfind_snoc, hp]
    | none =>
      have hp := i1 hf
      dsimp only
      by_cases he : (ixAt M n).nm = s
      · rw [if_pos he]
        refine ⟨fun h => (by cases h), fun k h => ?_⟩
        cases h
        rw [he, hf]
        dsimp only
        unfold mpe
        rw [pfind_snoc, hp]
        simp only [peqS_str, beq_self_eq_true]
        exact ⟨_, rfl⟩
      · rw [if_neg he]
        refine ⟨fun _ => ?_, fun k h => (by cases h)⟩
        cases fnd M (ixAt M n).nm n with
        | some _ => exact hp
        | none =>
          unfold mpe
          rw [pfind_snoc, hp]
          have : (s == (ixAt M n).nm) = false := by simp; exact fun e => he e.symm
          simp only [peqS_str, this]
theorem mpc_sc (n : Nat) (M : List Ix) : ∀ k, ∀ x ∈ mpc M k, Scoped n x
  | 0, x, hx => by simp [mpc] at hx
  | k + 1, x, hx => by
    simp only [mpc] at hx
    cases hf : fnd M (ixAt M k).nm k with
    | some _ => rw [hf] at hx; exact mpc_sc n M k x hx
    | none =>
      rw [hf] at hx
      rcases List.mem_append.1 hx with hx | hx
      · exact mpc_sc n M k x hx
      · rw [List.mem_singleton] at hx
        rw [hx]
        refine .tup fun j y hy => ?_
        have := List.mem_of_getElem? hy
        simp only [List.mem_cons, List.not_mem_nil, or_false] at this
        rcases this with rfl | rfl
        · exact .str _
        · exact .int _ _
/-- What a frame of a film is. -/
def shOf (s : Sq) (top : Bool) (M : List Ix) (e : Ex) : Option Sh := if e.op = 1 then (match fnd M e.m M.length with | some k => if usb s top (ixAt M k) e.fr then some ⟨e.m, e.fr, (enAt (ixAt M k).en e.fr.toNat).ty⟩ else none | none => none) else none
def exAt (l : List Ex) (k : Nat) : Ex := l.getD k ex0
theorem usb_rng {s : Sq} {top : Bool} {x : Ix} {n : Int} (h : usb s top x n = true) : 0 ≤ n ∧ n < x.en.length := by
  unfold usb at h
  simp only [Bool.and_eq_true, decide_eq_true_eq] at h
  exact ⟨h.2.1, h.2.2.1⟩
/-- The frames, of which the first j are known. -/
def shK (l : List (Option Sh)) (n j : Nat) : List (Option Sh) := l.take j ++ List.replicate (n - j) none
theorem fm_splice (l : List (Option Sh)) (j : Nat) (x : Option Sh) (h : j < l.length) : (l.flatMap soc).take (j * 4) ++ (soc x ++ (l.flatMap soc).drop (j * 4 + 4)) = (l.set j x).flatMap soc := by
  rw [fm_take soc 4 soc_len, show j * 4 + 4 = (j + 1) * 4 by omega, fm_drop soc 4 soc_len, ← List.flatMap_cons, ← List.flatMap_append, List.set_eq_take_append_cons_drop, if_pos h]
theorem shK_len (l : List (Option Sh)) (j : Nat) (h : j ≤ l.length) : (shK l l.length j).length = l.length := by simp [shK]; omega
theorem shK_set (l : List (Option Sh)) (j : Nat) (h : j < l.length) : (shK l l.length j).set j (sh l j) = shK l l.length (j + 1) := by
  unfold shK
  rw [List.set_append_right _ _ (by rw [List.length_take]; exact Nat.min_le_left _ _), List.length_take, Nat.min_eq_left (by omega), Nat.sub_self, show l.length - j = (l.length - (j + 1)) + 1 by omega, List.replicate_succ, List.set_cons_zero, List.take_add_one, List.append_assoc]
  congr 1
  unfold sh
  rw [List.getElem?_eq_getElem h]
  rfl
theorem shK_none (l : List (Option Sh)) (j : Nat) (h : j < l.length) (hn : sh l j = none) : shK l l.length j = shK l l.length (j + 1) := by
  rw [← shK_set l j h, hn]
  symm
  apply List.ext_getElem?
  intro i
  rw [List.getElem?_set]
  split
  · rename_i e; subst e
    rw [shK_len l j (by omega), if_pos h]
    unfold shK
    rw [List.getElem?_append_right (by rw [List.length_take]; exact Nat.min_le_left _ _), List.length_take, Nat.min_eq_left (by omega), Nat.sub_self, List.getElem?_replicate, if_pos (by omega)]
  · rfl

set_option maxHeartbeats 4000000 in
theorem shots_ok (s : Sq) (top : Bool) (E : List Ex) (g : Bool) (M : List Ix) (g' : Bool) (H : Heap) (hs : SqL s) (hM : ∀ x ∈ M, SqL x.sq ∧ x.en.length ≤ 1000000) (hMl : M.length ≤ 1000000) (hEl : E.length ≤ 1000000) (hEs : ∀ n, ∀ x ∈ E.flatMap exc, Scoped n x) :
    CallOk Try.prog 87 [.agg (sqc s), .bool top, .slice (E.flatMap exc) E.length g, .slice (M.flatMap ixc) M.length g'] H (.slice ((E.map (shOf s top M)).flatMap soc) E.length false) H := by
  have ls := sqc_len s hs
  have cs := sqc_c s
  have ts : (sqc s).take 135 = sqc s := List.take_of_length_le (by omega)
  have hlM := ixl_len M (fun x hx => (hM x hx).1)
  have hat := fun k => fm_at' ixc 137 ix0 M k (fun x hx => ixc_len x (hM x hx).1)
  have hmem := getD_mem ix0 M
  change ∀ k, k < M.length → ixAt M k ∈ M at hmem
  change ∀ k, k < M.length → List.take 137 (List.drop (k * 137) (M.flatMap ixc)) = ixc (ixAt M k) at hat
  have hfm := mpc_find M
  refine CallOk.body (F0 := [(0, .agg (sqc s)), (1, .bool top), (2, .slice (E.flatMap exc) E.length g), (3, .slice (M.flatMap ixc) M.length g')]) Try.func87 rfl Try.ntmps87 Try.results87 rfl (by kernel_rfl) rfl ?_
  (repeat refine PW.seq ?_); refine PW.rg rfl fun K hK => ?_; simp (maxSteps := 3000000) (disch := omega) only [go_sem, ↓reduceIte, reduceCtorEq, pappend, plen, cs]; refine hK _ _ ?_; clear hK K
  (repeat refine PW.seq ?_); refine PW.rg rfl fun K hK => ?_; simp (maxSteps := 3000000) (disch := omega) only [go_sem, ↓reduceIte, reduceCtorEq, pappend, plen]; refine hK _ _ ?_; clear hK K
  (repeat refine PW.seq ?_); refine PW.rg rfl fun K hK => ?_; simp (maxSteps := 3000000) (disch := omega) only [go_sem, ↓reduceIte, reduceCtorEq, pappend, plen]; refine hK _ _ ?_; clear hK K
  (repeat refine PW.seq ?_); refine PW.block (PW.loop ?_)
  have hscM : ∀ k, HSc H → HSc (H ++ [⟨39, 0, sqc s⟩, ⟨191, 0, mpc M k⟩]) := fun k => hscU 2 (by
    intro q hq t ht
    simp only [List.mem_cons, List.not_mem_nil, or_false] at hq
    rcases hq with rfl | rfl
    · exact sqc_sc _ _ _ ht
    · exact mpc_sc _ _ _ _ ht)
  have fzM : ∀ (k : Nat) {F : Fr} {K : Heap}, slot F 1 = .bool top → slot F 2 = .slice (E.flatMap exc) E.length g → slot F 3 = .slice (M.flatMap ixc) M.length g' → slot F 4 = .ptr H.length 0 0 → slot F 9 = .mp (H.length + 1) 0 → slot F 20 = .slice (M.flatMap ixc) M.length g' → slot F 21 = .int .i64 (M.length : Int) → slot F 22 = .int .i64 ((k + 1 : Nat) : Int) → FzF (H ++ [⟨39, 0, sqc s⟩, ⟨191, 0, mpc M (k + 1)⟩] : Heap).length K F [(1, .bool top), (2, .slice (E.flatMap exc) E.length g), (3, .slice (M.flatMap ixc) M.length g'), (4, .ptr H.length 0 0), (9, .mp (H.length + 1) 0), (20, .slice (M.flatMap ixc) M.length g'), (21, .int .i64 (M.length : Int)), (22, .int .i64 ((k + 1 : Nat) : Int))] := fun k F K q1 q2 q3 q4 q5 q6 q7 q8 => by
    refine ⟨?_, ?_, ?_, ?_, ?_, ?_, ?_, ?_, trivial⟩
    · rw [q1]; exact .id (.bool _)
    · rw [q2]; exact .id (sl_scoped (hEs _))
    · rw [q3]; exact .id (sl_scoped (ixl_sc _ _))
    · rw [q4]; exact .id (.ptr (by simp))
    · rw [q5]; exact .id (.mp (by simp))
    · rw [q6]; exact .id (sl_scoped (ixl_sc _ _))
    · rw [q7]; exact .id (.int _ _)
    · rw [q8]; exact .id (.int _ _)
  suffices hl1 : ∀ k : Nat, k ≤ M.length → PL Try.prog _ _ [(1, .bool top), (2, .slice (E.flatMap exc) E.length g), (3, .slice (M.flatMap ixc) M.length g'), (4, .ptr H.length 0 0), (9, .mp (H.length + 1) 0), (20, .slice (M.flatMap ixc) M.length g'), (21, .int .i64 (M.length : Int)), (22, .int .i64 (k : Int))] (H ++ [⟨39, 0, sqc s⟩, ⟨191, 0, mpc M k⟩]) _ by
    exact PL.at [1, 2, 3, 4, 9, 20, 21, 22] (hl1 0 (by omega)) rfl rfl
  intro k hk
  induction hd : M.length - k using Nat.strongRecOn generalizing k with
  | _ d ih =>
    refine PL.round ?_; (repeat refine PW.seq ?_); refine PW.rg rfl fun K hK => ?_; simp (maxSteps := 3000000) (disch := omega) only [go_sem, ↓reduceIte, reduceCtorEq, pappend, plen]; refine hK _ _ ?_; clear hK K
    (repeat refine PW.seq ?_); refine PW.cond (t := _) rfl (fun h => ?_) (fun h => ?_)
    rotate_left
    · have h4 : k = M.length := by have := of_decide_eq_false h; omega
      subst h4
      refine PW.exit ?_
      clear ih hd
      (repeat refine PW.seq ?_); refine PW.rg rfl fun K hK => ?_; simp (maxSteps := 3000000) (disch := omega) only [go_sem, ↓reduceIte, reduceCtorEq, pappend, plen]; refine hK _ _ ?_; clear hK K
      (repeat refine PW.seq ?_); refine PW.rg rfl fun K hK => ?_; simp (maxSteps := 3000000) (disch := omega) only [go_sem, ↓reduceIte, reduceCtorEq, pappend, plen]; refine hK _ _ ?_; clear hK K
      (repeat refine PW.seq ?_); refine PW.block (PW.loop ?_)
      have hfl := hfm
      obtain ⟨l, hl⟩ : ∃ l, E.map (shOf s top M) = l := ⟨_, rfl⟩
      have hll : l.length = E.length := by rw [← hl, List.length_map]
      have hlj : ∀ j, j < E.length → sh l j = shOf s top M (exAt E j) := fun j hj => by
        unfold sh exAt
        rw [← hl, List.getElem?_map, List.getElem?_eq_getElem hj, List.getD_eq_getElem?_getD, List.getElem?_eq_getElem hj]
        rfl
      have hea := fun j => fm_at exc 8 (fun _ => rfl) ex0 E j
      change ∀ j, j < E.length → List.take 8 (List.drop (j * 8) (E.flatMap exc)) = exc (exAt E j) at hea
      have hel := exl_len E
      rw [hl]
      have hsc3 : ∀ j, HSc H → HSc (H ++ [⟨39, 0, sqc s⟩, ⟨191, 0, mpc M M.length⟩, ⟨155, 0, (shK l E.length j).flatMap soc⟩]) := fun j => hscU 3 (by
        intro q hq t ht
        simp only [List.mem_cons, List.not_mem_nil, or_false] at hq
        rcases hq with rfl | rfl | rfl
        · exact sqc_sc _ _ _ ht
        · exact mpc_sc _ _ _ _ ht
        · exact sol_sc _ _ _ ht)
      have fz3 : ∀ (j j' : Nat) {F : Fr} {K : Heap}, slot F 1 = .bool top → slot F 3 = .slice (M.flatMap ixc) M.length g' → slot F 4 = .ptr H.length 0 0 → slot F 9 = .mp (H.length + 1) 0 → slot F 14 = .msl (H.length + 2) 0 0 E.length 4 true → slot F 44 = .slice (E.flatMap exc) E.length g → slot F 45 = .int .i64 (E.length : Int) → slot F 46 = .int .i64 ((j' : Nat) : Int) → FzF (H ++ [⟨39, 0, sqc s⟩, ⟨191, 0, mpc M M.length⟩, ⟨155, 0, (shK l E.length j).flatMap soc⟩] : Heap).length K F [(1, .bool top), (3, .slice (M.flatMap ixc) M.length g'), (4, .ptr H.length 0 0), (9, .mp (H.length + 1) 0), (14, .msl (H.length + 2) 0 0 E.length 4 true), (44, .slice (E.flatMap exc) E.length g), (45, .int .i64 (E.length : Int)), (46, .int .i64 ((j' : Nat) : Int))] := fun j j' F K q1 q2 q3 q4 q5 q6 q7 q8 => by
        refine ⟨?_, ?_, ?_, ?_, ?_, ?_, ?_, ?_, trivial⟩
        · rw [q1]; exact .id (.bool _)
        · rw [q2]; exact .id (sl_scoped (ixl_sc _ _))
        · rw [q3]; exact .id (.ptr (by simp))
        · rw [q4]; exact .id (.mp (by simp))
        · rw [q5]; exact .id (.msl (by simp))
        · rw [q6]; exact .id (sl_scoped (hEs _))
        · rw [q7]; exact .id (.int _ _)
        · rw [q8]; exact .id (.int _ _)
      suffices hl2 : ∀ j : Nat, j ≤ E.length → PL Try.prog _ _ [(1, .bool top), (3, .slice (M.flatMap ixc) M.length g'), (4, .ptr H.length 0 0), (9, .mp (H.length + 1) 0), (14, .msl (H.length + 2) 0 0 E.length 4 true), (44, .slice (E.flatMap exc) E.length g), (45, .int .i64 (E.length : Int)), (46, .int .i64 (j : Int))] (H ++ [⟨39, 0, sqc s⟩, ⟨191, 0, mpc M M.length⟩, ⟨155, 0, (shK l E.length j).flatMap soc⟩]) _ by
        refine PL.at [1, 3, 4, 9, 14, 44, 45, 46] (hl2 0 (by omega)) rfl ?_
        have : (shK l E.length 0).flatMap soc = (List.replicate E.length [PV.bool false, PV.str [], PV.int IntKind.i64 0, PV.int IntKind.i64 0]).flatten := by
          simp only [shK, List.take_zero, List.nil_append, Nat.sub_zero, List.flatMap, List.map_replicate]
          rfl
        rw [this]
      intro j hj
      induction hd2 : E.length - j using Nat.strongRecOn generalizing j with
      | _ d2 ih2 =>
        have hKl := shK_len l j (by omega)
        rw [hll] at hKl
        have hcl := sol_len (shK l E.length j)
        rw [hKl] at hcl
        refine PL.round ?_; (repeat refine PW.seq ?_); refine PW.rg rfl fun K hK => ?_; simp (maxSteps := 3000000) (disch := omega) only [go_sem, ↓reduceIte, reduceCtorEq, pappend, plen]; refine hK _ _ ?_; clear hK K
        (repeat refine PW.seq ?_); refine PW.cond (t := _) rfl (fun h => ?_) (fun h => ?_)
        rotate_left
        · have h5 : j = E.length := by have := of_decide_eq_false h; omega
          subst h5
          refine PW.exit ?_
          have : shK l E.length E.length = l := by simp [shK, ← hll]
          rw [this] at hcl ⊢
          (repeat refine PW.seq ?_); refine PW.rg rfl fun K hK => ?_; simp (maxSteps := 3000000) (disch := omega) only [go_sem, ↓reduceIte, reduceCtorEq, pappend, plen]; refine hK _ _ ?_; clear hK K
          refine PW.ret ⟨_, rfl, ?_⟩
          exact Fin.base (Fz.mslC (e := 155) (xs := l.flatMap soc) (by omega) (hp2 _ _ _ _ _) (by rw [hcl]) (FzC.refl (sol_sc _ _)))
        · have h5 : j < E.length := by have := of_decide_eq_true h; omega
          have hej := hea j h5
          have hsj := hlj j h5
          generalize hee : exAt E j = e at *
          have hfe := hfl e.m M.length
          obtain ⟨op, m, fr, x3, x4, x5, x6, xs, en', eg⟩ := e
          simp only [exc, shOf] at hej hsj hfe
          have nnn : sh l j = none → shK l E.length j = shK l E.length (j + 1) := fun hh => by
            have := shK_none l j (by omega) hh
            rwa [hll] at this
          refine PW.skip ?_; (repeat refine PW.seq ?_); refine PW.block ?_
          (repeat refine PW.seq ?_); refine PW.rg rfl fun K hK => ?_; simp (maxSteps := 3000000) (disch := omega) only [go_sem, ↓reduceIte, reduceCtorEq, pappend, plen, hej, hel]; refine hK _ _ ?_; clear hK K
          cases hf : fnd M m M.length with
          | none =>
            have hp := hfe.1 hf
            (repeat refine PW.seq ?_); refine PW.rg rfl fun K hK => ?_; simp (maxSteps := 3000000) (disch := omega) only [go_sem, ↓reduceIte, reduceCtorEq, pappend, plen, hp, plook, pmapOf, scalT, zr_int]; refine hK _ _ ?_; clear hK K
            have hno : sh l j = none := by rw [hsj, hf]; split <;> rfl
            rw [nnn hno]
            (repeat refine PW.seq ?_); refine PW.draw mix (by kernel_rfl) fun K hK => ?_; simp (maxSteps := 3000000) (disch := omega) only [go_sem, ↓reduceIte, reduceCtorEq, pappend, plen]
            (repeat' ((first | refine VO_cond (fun h => ?_) (fun h => ?_) | refine VOd_cond (fun h => ?_) (fun h => ?_) | refine VOg_cond (fun h => ?_) (fun h => ?_) | refine VOh_cond (fun h => ?_) (fun h => ?_) | refine VOi_cond (fun h => ?_) (fun h => ?_) | refine And.intro (fun h => ?_) (fun h => ?_)) <;> (try simp only [Bool.not_eq_true', Bool.not_eq_false', decide_eq_true_eq, decide_eq_false_iff_not] at h) <;> simp (maxSteps := 3000000) (disch := omega) only [go_sem, ↓reduceIte, reduceCtorEq, pappend, plen, h]))
            all_goals refine hK _ _ ?_; clear hK K
            all_goals
              (repeat refine PW.seq ?_); refine PW.cond (t := _) rfl (fun h => ?_) (fun h => ?_)
            all_goals first
              | (cases h; done)
              | (refine PW.skip ?_
                 (repeat refine PW.seq ?_); refine PW.rg rfl fun K hK => ?_; simp (maxSteps := 3000000) (disch := omega) only [go_sem, ↓reduceIte, reduceCtorEq, pappend, plen]; refine hK _ _ ?_; clear hK K
                 refine PL.view (Vs.trim (F1 := [(1, .bool top), (3, .slice (M.flatMap ixc) M.length g'), (4, .ptr H.length 0 0), (9, .mp (H.length + 1) 0), (14, .msl (H.length + 2) 0 0 E.length 4 true), (44, .slice (E.flatMap exc) E.length g), (45, .int .i64 (E.length : Int)), (46, .int .i64 ((j + 1 : Nat) : Int))]) (H1 := H ++ [⟨39, 0, sqc s⟩, ⟨191, 0, mpc M M.length⟩, ⟨155, 0, (shK l E.length (j + 1)).flatMap soc⟩]) (hsc3 _) (by simp) (List.append_assoc _ [_, _, _] [_]).symm (fz3 _ _ rfl rfl rfl rfl rfl rfl rfl rfl)) (ih2 (E.length - (j + 1)) (by omega) (j + 1) (by omega) rfl))
          | some q =>
            obtain ⟨p, hp⟩ := hfe.2 q hf
            rw [hf] at hsj
            dsimp only at hsj
            have hq := fnd_lt hf
            have hx := hM _ (hmem q hq.1)
            have hxa := hat q hq.1
            have lx := ixc_len _ hx.1
            have x136 := get_of_take (j := 136) hxa (by omega)
            have x136' : (ixc (ixAt M q))[136]? = some (.slice ((ixAt M q).en.flatMap enc) (ixAt M q).en.length (ixAt M q).g) := by
              unfold ixc
              rw [List.getElem?_cons_succ, List.getElem?_append_right (by rw [sqc_len _ hx.1]; omega), sqc_len _ hx.1]
              rfl
            rw [x136'] at x136
            have uo := fun K => usb_ok s top (ixAt M q) fr K hs hx.1 (by omega)
            have hrng := fun hh : usb s top (ixAt M q) fr = true => usb_rng hh
            have hE5 := fm_len enc 5 (fun _ => rfl) (ixAt M q).en
            have hEat := fun (h0 : 0 ≤ fr) (h1 : fr < (ixAt M q).en.length) => get_of_take (j := 0) (fm_at enc 5 (fun _ => rfl) ⟨0, false, 0, false, false⟩ (ixAt M q).en fr.toNat (by omega)) (by omega)
            change ∀ (h0 : 0 ≤ fr) (h1 : fr < (ixAt M q).en.length), ((ixAt M q).en.flatMap enc)[fr.toNat * 5 + 0]? = (enc (enAt (ixAt M q).en fr.toNat))[0]? at hEat
            have hspl := fm_splice (shK l E.length j) j (sh l j) (by omega)
            have hset := shK_set l j (by omega)
            rw [hll] at hset
            rw [hset] at hspl
            have hen := hx.2
            generalize ixAt M q = x at *
            generalize usb s top x fr = u at *
            (repeat refine PW.seq ?_); refine PW.rg rfl fun K hK => ?_; simp (maxSteps := 3000000) (disch := omega) only [go_sem, ↓reduceIte, reduceCtorEq, pappend, plen, hp, plook, pmapOf, scalT]; refine hK _ _ ?_; clear hK K
            by_cases ho : op = 1
            · subst ho
              rw [if_pos rfl] at hsj
              (repeat refine PW.seq ?_); refine PW.draw mix (by kernel_rfl) fun K hK => ?_; simp (maxSteps := 3000000) (disch := omega) only [go_sem, ↓reduceIte, reduceCtorEq, pappend, plen, hxa, hlM, lx, ls, ts]
              (repeat' (first | ((first | refine VO_cond (fun h => ?_) (fun h => ?_) | refine VOd_cond (fun h => ?_) (fun h => ?_) | refine VOg_cond (fun h => ?_) (fun h => ?_) | refine VOh_cond (fun h => ?_) (fun h => ?_) | refine VOi_cond (fun h => ?_) (fun h => ?_) | refine And.intro (fun h => ?_) (fun h => ?_)) <;> (try simp only [Bool.not_eq_true', Bool.not_eq_false', decide_eq_true_eq, decide_eq_false_iff_not] at h) <;> simp (maxSteps := 3000000) (disch := omega) only [go_sem, ↓reduceIte, reduceCtorEq, pappend, plen, hxa, hlM, lx, ls, ts, h]) | (refine VCx.call (uo _) rfl ?_; simp (maxSteps := 3000000) (disch := omega) only [go_sem, ↓reduceIte, reduceCtorEq, pappend, plen, hxa, hlM, lx, ls, ts]) | (refine VCy.call (uo _) rfl ?_; simp (maxSteps := 3000000) (disch := omega) only [go_sem, ↓reduceIte, reduceCtorEq, pappend, plen, hxa, hlM, lx, ls, ts]) | (refine VCz.call (fun _ => uo _) rfl ?_; simp (maxSteps := 3000000) (disch := omega) only [go_sem, ↓reduceIte, reduceCtorEq, pappend, plen, hxa, hlM, lx, ls, ts]) | (refine VCk.call (fun _ _ => uo _) rfl ?_; simp (maxSteps := 3000000) (disch := omega) only [go_sem, ↓reduceIte, reduceCtorEq, pappend, plen, hxa, hlM, lx, ls, ts])))
              all_goals refine hK _ _ ?_; clear hK K
              (repeat refine PW.seq ?_); refine PW.cond (t := _) rfl (fun h => ?_) (fun h => ?_)
              · have hu : u = true := by simpa using h
                obtain ⟨h0, h1⟩ := hrng hu
                have hEat' := hEat h0 h1
                simp only [Nat.add_zero] at hEat'
                change _ = some (PV.int .i64 (enAt x.en fr.toNat).ty) at hEat'
                rw [if_pos hu] at hsj
                rw [hsj] at hspl
                have hspl2 : List.take (j * 4) ((shK l E.length j).flatMap soc) ++ PV.bool true :: PV.str m :: PV.int IntKind.i64 fr :: PV.int IntKind.i64 (enAt x.en fr.toNat).ty :: List.drop (j * 4 + (1 + 1 + 1 + 1)) ((shK l E.length j).flatMap soc) = (shK l E.length (j + 1)).flatMap soc := hspl
                (repeat refine PW.seq ?_); refine PW.drawi [H.length + 2] [(14, [0]), (75, [0]), (92, [0])] [] [] mix (by kernel_rfl) (by simp <;> omega) fun K hK => ?_
                simp (maxSteps := 3000000) (disch := omega) only [go_sem, ↓reduceIte, reduceCtorEq, pappend, plen, hlM, x136, hE5, hEat', hcl]
                refine hK _ _ ?_; clear hK K
                (repeat refine PW.seq ?_); refine PW.rg rfl fun K hK => ?_; simp (maxSteps := 3000000) (disch := omega) only [go_sem, ↓reduceIte, reduceCtorEq, pappend, plen]; refine hK _ _ ?_; clear hK K
                rw [hspl2]
                refine PL.view (Vs.trim (F1 := [(1, .bool top), (3, .slice (M.flatMap ixc) M.length g'), (4, .ptr H.length 0 0), (9, .mp (H.length + 1) 0), (14, .msl (H.length + 2) 0 0 E.length 4 true), (44, .slice (E.flatMap exc) E.length g), (45, .int .i64 (E.length : Int)), (46, .int .i64 ((j + 1 : Nat) : Int))]) (H1 := H ++ [⟨39, 0, sqc s⟩, ⟨191, 0, mpc M M.length⟩, ⟨155, 0, (shK l E.length (j + 1)).flatMap soc⟩]) (hsc3 _) (by simp) (List.append_assoc _ [_, _, _] [_]).symm (fz3 _ _ rfl rfl rfl rfl rfl rfl rfl rfl)) (ih2 (E.length - (j + 1)) (by omega) (j + 1) (by omega) rfl)
              · have hu : u = false := by simpa using h
                rw [if_neg (by rw [hu]; decide)] at hsj
                rw [nnn hsj]
                refine PW.skip ?_
                (repeat refine PW.seq ?_); refine PW.rg rfl fun K hK => ?_; simp (maxSteps := 3000000) (disch := omega) only [go_sem, ↓reduceIte, reduceCtorEq, pappend, plen]; refine hK _ _ ?_; clear hK K
                refine PL.view (Vs.trim (F1 := [(1, .bool top), (3, .slice (M.flatMap ixc) M.length g'), (4, .ptr H.length 0 0), (9, .mp (H.length + 1) 0), (14, .msl (H.length + 2) 0 0 E.length 4 true), (44, .slice (E.flatMap exc) E.length g), (45, .int .i64 (E.length : Int)), (46, .int .i64 ((j + 1 : Nat) : Int))]) (H1 := H ++ [⟨39, 0, sqc s⟩, ⟨191, 0, mpc M M.length⟩, ⟨155, 0, (shK l E.length (j + 1)).flatMap soc⟩]) (hsc3 _) (by simp) (List.append_assoc _ [_, _, _] [_]).symm (fz3 _ _ rfl rfl rfl rfl rfl rfl rfl rfl)) (ih2 (E.length - (j + 1)) (by omega) (j + 1) (by omega) rfl)
            · rw [if_neg ho] at hsj
              rw [nnn hsj]
              have hob : (op == 1) = false := by simp [ho]
              (repeat refine PW.seq ?_); refine PW.draw mix (by kernel_rfl) fun K hK => ?_; simp (maxSteps := 3000000) (disch := omega) only [go_sem, ↓reduceIte, reduceCtorEq, pappend, plen, hob]
              refine hK _ _ ?_; clear hK K
              (repeat refine PW.seq ?_); refine PW.cond (t := _) rfl (fun h => ?_) (fun h => ?_)
              · cases h
              refine PW.skip ?_
              (repeat refine PW.seq ?_); refine PW.rg rfl fun K hK => ?_; simp (maxSteps := 3000000) (disch := omega) only [go_sem, ↓reduceIte, reduceCtorEq, pappend, plen]; refine hK _ _ ?_; clear hK K
              refine PL.view (Vs.trim (F1 := [(1, .bool top), (3, .slice (M.flatMap ixc) M.length g'), (4, .ptr H.length 0 0), (9, .mp (H.length + 1) 0), (14, .msl (H.length + 2) 0 0 E.length 4 true), (44, .slice (E.flatMap exc) E.length g), (45, .int .i64 (E.length : Int)), (46, .int .i64 ((j + 1 : Nat) : Int))]) (H1 := H ++ [⟨39, 0, sqc s⟩, ⟨191, 0, mpc M M.length⟩, ⟨155, 0, (shK l E.length (j + 1)).flatMap soc⟩]) (hsc3 _) (by simp) (List.append_assoc _ [_, _, _] [_]).symm (fz3 _ _ rfl rfl rfl rfl rfl rfl rfl rfl)) (ih2 (E.length - (j + 1)) (by omega) (j + 1) (by omega) rfl)
    · have h4 : k < M.length := by have := of_decide_eq_true h; omega
      have hx := hM _ (hmem k h4)
      have hak := hat k h4
      have hnx : mpc M (k + 1) = match fnd M (ixAt M k).nm k with
        | some _ => mpc M k
        | none => mpc M k ++ [mpe (ixAt M k).nm k] := rfl
      have hfk := hfm (ixAt M k).nm k
      have lx := ixc_len _ hx.1
      have cx := ixc_c (ixAt M k)
      have n0 : (ixc (ixAt M k))[0]? = some (.str (ixAt M k).nm) := rfl
      generalize ixAt M k = x at *
      refine PW.skip ?_; (repeat refine PW.seq ?_); refine PW.block ?_
      (repeat refine PW.seq ?_); refine PW.rg rfl fun K hK => ?_; simp (maxSteps := 3000000) (disch := omega) only [go_sem, ↓reduceIte, reduceCtorEq, pappend, plen, hak, hlM, lx, cx]; refine hK _ _ ?_; clear hK K
      cases hf : fnd M x.nm k with
      | some q =>
        rw [hf] at hnx
        dsimp only at hnx
        obtain ⟨p, hp⟩ := hfk.2 q hf
        (repeat refine PW.seq ?_); refine PW.rg rfl fun K hK => ?_; simp (maxSteps := 3000000) (disch := omega) only [go_sem, ↓reduceIte, reduceCtorEq, pappend, plen, n0, lx, hp, plook, pmapOf, scalT]; refine hK _ _ ?_; clear hK K
        (repeat refine PW.seq ?_); refine PW.rg rfl fun K hK => ?_; simp (maxSteps := 3000000) (disch := omega) only [go_sem, ↓reduceIte, reduceCtorEq, pappend, plen]; refine hK _ _ ?_; clear hK K
        (repeat refine PW.seq ?_); refine PW.cond (t := _) rfl (fun h => ?_) (fun h => ?_)
        · cases h
        refine PW.skip ?_
        (repeat refine PW.seq ?_); refine PW.rg rfl fun K hK => ?_; simp (maxSteps := 3000000) (disch := omega) only [go_sem, ↓reduceIte, reduceCtorEq, pappend, plen]; refine hK _ _ ?_; clear hK K
        refine PL.view (Vs.trim (F1 := [(1, .bool top), (2, .slice (E.flatMap exc) E.length g), (3, .slice (M.flatMap ixc) M.length g'), (4, .ptr H.length 0 0), (9, .mp (H.length + 1) 0), (20, .slice (M.flatMap ixc) M.length g'), (21, .int .i64 (M.length : Int)), (22, .int .i64 ((k + 1 : Nat) : Int))]) (H1 := H ++ [⟨39, 0, sqc s⟩, ⟨191, 0, mpc M (k + 1)⟩]) (hscM (k + 1)) (by simp) (by rw [hnx]; exact (List.append_assoc _ [_, _] [_]).symm) ?_) (ih (M.length - (k + 1)) (by omega) (k + 1) (by omega) rfl)
        exact fzM _ rfl rfl rfl rfl rfl rfl rfl rfl
      | none =>
        rw [hf] at hnx
        dsimp only at hnx
        have hp := hfk.1 hf
        (repeat refine PW.seq ?_); refine PW.rg rfl fun K hK => ?_; simp (maxSteps := 3000000) (disch := omega) only [go_sem, ↓reduceIte, reduceCtorEq, pappend, plen, n0, lx, hp, plook, pmapOf, scalT, zr_int]; refine hK _ _ ?_; clear hK K
        (repeat refine PW.seq ?_); refine PW.rg rfl fun K hK => ?_; simp (maxSteps := 3000000) (disch := omega) only [go_sem, ↓reduceIte, reduceCtorEq, pappend, plen]; refine hK _ _ ?_; clear hK K
        (repeat refine PW.seq ?_); refine PW.cond (t := _) rfl (fun h => ?_) (fun h => ?_)
        rotate_left
        · cases h
        (repeat refine PW.seq ?_); refine PW.rg rfl fun K hK => ?_; simp (maxSteps := 3000000) (disch := omega) only [go_sem, ↓reduceIte, reduceCtorEq, pappend, plen, n0, lx, hp, pmset, pmapOf, scalT]; refine hK _ _ ?_; clear hK K
        (repeat refine PW.seq ?_); refine PW.rg rfl fun K hK => ?_; simp (maxSteps := 3000000) (disch := omega) only [go_sem, ↓reduceIte, reduceCtorEq, pappend, plen]; refine hK _ _ ?_; clear hK K
        refine PL.view (Vs.trim (F1 := [(1, .bool top), (2, .slice (E.flatMap exc) E.length g), (3, .slice (M.flatMap ixc) M.length g'), (4, .ptr H.length 0 0), (9, .mp (H.length + 1) 0), (20, .slice (M.flatMap ixc) M.length g'), (21, .int .i64 (M.length : Int)), (22, .int .i64 ((k + 1 : Nat) : Int))]) (H1 := H ++ [⟨39, 0, sqc s⟩, ⟨191, 0, mpc M (k + 1)⟩]) (hscM (k + 1)) (by simp) (by rw [hnx]; exact (List.append_assoc _ [_, _] [_]).symm) ?_) (ih (M.length - (k + 1)) (by omega) (k + 1) (by omega) rfl)
        exact fzM _ rfl rfl rfl rfl rfl rfl rfl rfl

end Go.Proofs.Ytnjnikafhbholaa.Sc
