/-
  Parts of the proof. No condition.
-/
import Derived.Test.YtbhdollgohgkgaaGreatDoorA12
import Derived.Test.YtbhdollgohgkgaaGreatDoorA11
import Derived.Test.YtbhdollgohgkgaaGreatDoorA18
namespace Go.Proofs.YtbhdollgohgkgaaGreatDoor.Sc
set_option linter.all false
set_option linter.unusedVariables false
set_option linter.unusedSimpArgs false
open Pm Ty S3 Go.RowKit

/-! ### the items that units make -/
def itN (k : Int) : It := ⟨k, zSq, false, false, 0, pi0, [], [], 0⟩
/-- The item that a unit begins (none: its kind is 0), and the error. -/
def bgn (t : Int) (q : List UInt8) : It × Int :=
  if t = 179 then ({ itN 1 with s := (takeS true t q).1 }, (takeS true t q).2)
  else if t = 184 then ({ itN 2 with gc := (takeG t q).1, gb := (takeG t q).2.1, gt := (takeG t q).2.2.1 }, (takeG t q).2.2.2)
  else if t = 181 then ({ itN 3 with p := (takeH t q).1 }, (takeH t q).2)
  else if t = 183 then (itN 4, if q.length = 0 then 0 else 3)
  else (itN 0, 0)
/-- Items: those that are complete, and the open picture. -/
structure PSt where
  pre : List It
  cur : Option It
  np : Nat
def PSt.its (s : PSt) : List It := s.pre ++ s.cur.toList
def usB (q : List UInt8) : Bool := decide (0 < q.length) && (decide (q.length ≤ 257) && byt q (q.length - 1) == 128)
/-- A unit is accepted or rejected. -/
def accP (s : PSt) (t : Int) (q : List UInt8) : PSt × Bool :=
  if t = 178 then match s.cur with
    | some x => if usB q then (⟨s.pre, some { x with U := x.U ++ [q.take (q.length - 1)] }, s.np⟩, true) else (s, false)
    | none => (s, false)
  else if 1 ≤ t ∧ t < 5 then match s.cur with
    | some x => (⟨s.pre, some { x with us := x.us ++ [(t, q)] }, s.np⟩, true)
    | none => (s, false)
  else if (bgn t q).1.k = 0 then (s, false)
  else if (bgn t q).2 = 0 then
    if (bgn t q).1.k = 3 then (⟨s.its, some (bgn t q).1, s.np + 1⟩, true) else (⟨s.its ++ [(bgn t q).1], none, s.np⟩, true)
  else (⟨s.its, none, s.np⟩, false)
/-- Stuffing behind the last item. -/
def padP (d : Int) (s : PSt) : PSt := match s.cur with
  | some x => ⟨s.pre, some { x with pad := x.pad + d }, s.np⟩
  | none => ⟨s.pre.modify (s.pre.length - 1) fun x => { x with pad := x.pad + d }, none, s.np⟩
def stpP (x : PSt × List (Nat × Nat)) (f : Fnd) : PSt × List (Nat × Nat) :=
  if (accP x.1 f.t f.p).2 then (padP ((f.nx : Int) - f.to) (accP x.1 f.t f.p).1, x.2) else ((accP x.1 f.t f.p).1, x.2 ++ [(f.fr, f.to)])
def ps0 : PSt := ⟨[], none, 0⟩
def prsP (us : List Fnd) : PSt × List (Nat × Nat) := us.foldl stpP (ps0, [])
theorem prs_take {us : List Fnd} {i : Nat} (h : i < us.length) : prsP (us.take (i + 1)) = stpP (prsP (us.take i)) us[i] := by
  unfold prsP
  rw [List.take_succ_eq_append_getElem h, List.foldl_append]; rfl

/-! ### defects in order -/
/-- The place of a defect. -/
def insK (l : List (Nat × Nat)) (d : Nat) : Nat → Nat
  | 0 => 0
  | i + 1 => match l[i]? with | some e => if d < e.1 then insK l d i else i + 1 | none => i + 1
def insD (l : List (Nat × Nat)) (d : Nat × Nat) : List (Nat × Nat) := l.take (insK l d.1 l.length) ++ d :: l.drop (insK l d.1 l.length)
def SrtD (l : List (Nat × Nat)) : Prop := l.Pairwise fun a b => a.1 ≤ b.1
theorem insK_le (l : List (Nat × Nat)) (d : Nat) : ∀ i, insK l d i ≤ i
  | 0 => Nat.le_refl _
  | i + 1 => by
    rw [insK]
    split
    · split
      · have := insK_le l d i; omega
      · exact Nat.le_refl _
    · exact Nat.le_refl _
theorem insK_gt (l : List (Nat × Nat)) (d : Nat) : ∀ i, ∀ j (e : Nat × Nat), insK l d i ≤ j → j < i → l[j]? = some e → d < e.1
  | 0, j, e, _, h, _ => by omega
  | i + 1, j, e, h1, h2, he => by
    rw [insK] at h1
    cases hi : l[i]? with
    | none =>
      rw [hi] at h1
      dsimp only at h1
      omega
    | some x =>
      rw [hi] at h1
      dsimp only at h1
      split at h1
      · by_cases hj : j = i
        · subst hj
          rw [hi] at he
          injection he with he
          subst he
          assumption
        · exact insK_gt l d i j e h1 (by omega) he
      · omega
theorem insK_last (l : List (Nat × Nat)) (d : Nat) : ∀ i, i ≤ l.length → ∀ (e : Nat × Nat), 0 < insK l d i → l[insK l d i - 1]? = some e → e.1 ≤ d
  | 0, _, e, h, _ => by simp [insK] at h
  | i + 1, hi, e, h, he => by
    rw [insK, List.getElem?_eq_getElem (show i < l.length by omega)] at h
    dsimp only at h
    rw [insK, List.getElem?_eq_getElem (show i < l.length by omega)] at he
    dsimp only at he
    split at h
    · rename_i hd
      rw [if_pos hd] at he
      exact insK_last l d i (by omega) e h he
    · rename_i hd
      rw [if_neg hd, Nat.add_sub_cancel, List.getElem?_eq_getElem (show i < l.length by omega)] at he
      injection he with he
      subst he
      omega
theorem ins_perm (l : List (Nat × Nat)) (d : Nat × Nat) : (insD l d).Perm (l ++ [d]) := by
  unfold insD
  refine List.perm_middle.trans ?_
  rw [List.take_append_drop]
  exact (List.perm_append_singleton d l).symm
theorem ins_srt {l : List (Nat × Nat)} (h : SrtD l) (d : Nat × Nat) : SrtD (insD l d) := by
  unfold SrtD insD at *
  have h1 := insK_gt l d.1 l.length
  have h2 := insK_last l d.1 l.length (Nat.le_refl _)
  have h3 := insK_le l d.1 l.length
  generalize insK l d.1 l.length = k at *
  have hg := List.pairwise_iff_getElem.1 h
  refine List.pairwise_append.2 ⟨h.sublist (List.take_sublist ..), List.pairwise_cons.2 ⟨fun e he => ?_, h.sublist (List.drop_sublist ..)⟩, fun a ha e he => ?_⟩
  · obtain ⟨j, hj⟩ := List.getElem?_of_mem he
    rw [List.getElem?_drop] at hj
    have := h1 _ e (by omega) (List.getElem?_eq_some_iff.1 hj).1 hj
    omega
  · obtain ⟨i, hi⟩ := List.getElem?_of_mem ha
    have hik : i < k := by have := (List.getElem?_eq_some_iff.1 hi).1; rw [List.length_take] at this; omega
    rw [List.getElem?_take, if_pos hik] at hi
    obtain ⟨hil, hi⟩ := List.getElem?_eq_some_iff.1 hi
    have had : a.1 ≤ d.1 := by
      have hl := h2 l[k - 1] (by omega) (List.getElem?_eq_getElem (by omega))
      by_cases hq : i = k - 1
      · subst hq; rw [← hi]; exact hl
      · have := hg i (k - 1) hil (by omega) (by omega)
        rw [hi] at this
        omega
    rcases List.mem_cons.1 he with rfl | he
    · exact had
    · obtain ⟨j, hj⟩ := List.getElem?_of_mem he
      rw [List.getElem?_drop] at hj
      have := h1 _ e (by omega) (List.getElem?_eq_some_iff.1 hj).1 hj
      omega
theorem insF_perm : ∀ (r l : List (Nat × Nat)), (r.foldl insD l).Perm (l ++ r)
  | [], l => by simp
  | d :: r, l => by
    rw [List.foldl_cons]
    refine (insF_perm r (insD l d)).trans ?_
    refine ((ins_perm l d).append_right r).trans ?_
    rw [List.append_assoc]; exact .refl _
theorem insF_srt : ∀ (r : List (Nat × Nat)) {l : List (Nat × Nat)}, SrtD l → SrtD (r.foldl insD l)
  | [], l, h => h
  | d :: r, l, h => insF_srt r (ins_srt h d)
theorem nodup_key {l : List (Nat × Nat)} (h : (l.map (·.1)).Nodup) {a b : Nat × Nat} (ha : a ∈ l) (hb : b ∈ l) (e : a.1 = b.1) : a = b := by
  obtain ⟨i, hi, rfl⟩ := List.getElem_of_mem ha
  obtain ⟨j, hj, rfl⟩ := List.getElem_of_mem hb
  have hij : i = j := by
    have h2 := List.getElem_inj (i := i) (j := j) (h₀ := by simpa using hi) (h₁ := by simpa using hj) h
    exact h2.1 (by simpa using e)
  subst hij; rfl
/-- There is one sorted order. -/
theorem srt_one {l r d : List (Nat × Nat)} (hl : SrtD l) (hn : ((l ++ r).map (·.1)).Nodup) (hp : d.Perm (l ++ r)) (hd : SrtD d) : d = r.foldl insD l := by
  have h2 := insF_perm r l
  refine List.Perm.eq_of_pairwise (le := fun a b : Nat × Nat => a.1 ≤ b.1) (fun a b ha hb h1 h2' => ?_) hd (insF_srt r hl) (hp.trans h2.symm)
  exact nodup_key hn (hp.mem_iff.1 ha) (h2.mem_iff.1 hb) (by omega)

/-! ### what Split finds stands at distinct places -/
def SplI (i : Nat) (us : List Fnd) (ds : List (Nat × Nat)) : Prop := (us.map (·.fr) ++ ds.map (·.1)).Nodup ∧ (∀ x ∈ us, x.fr < i) ∧ (∀ x ∈ ds, x.1 < i) ∧ SrtD ds
theorem splF_i (b : List UInt8) : ∀ (n i : Nat) (us : List Fnd) (ds : List (Nat × Nat)), (i < b.length → i + 4 ≤ b.length) → SplI i us ds → ∃ j, SplI j (splF b n i us ds).1 (splF b n i us ds).2
  | 0, i, us, ds, _, h => ⟨i, h⟩
  | n + 1, i, us, ds, hi, ⟨h1, h2, h3, h4⟩ => by
    unfold splF
    by_cases hb : i < b.length
    rotate_left
    · rw [if_neg hb]; exact ⟨i, h1, h2, h3, h4⟩
    have hg := nxt_ge b (i + 4) (hi hb)
    have hr := nxt_room b (i + 4)
    rw [if_pos hb]
    generalize nxt b (i + 4) = nx at *
    have hnew : i ∉ us.map (·.fr) ++ ds.map (·.1) := fun hm => by
      rcases List.mem_append.1 hm with hm | hm
      · obtain ⟨x, hx, e⟩ := List.mem_map.1 hm
        have := h2 x hx
        omega
      · obtain ⟨x, hx, e⟩ := List.mem_map.1 hm
        have := h3 x hx
        omega
    split
    · refine splF_i b n nx _ _ hr ⟨?_, fun x hx => ?_, fun x hx => ?_, h4⟩
      · rw [List.map_append, List.map_singleton, List.append_assoc, List.singleton_append]
        exact List.perm_middle.symm.nodup_iff.1 (List.nodup_cons.2 ⟨hnew, h1⟩)
      · rcases List.mem_append.1 hx with hx | hx
        · have := h2 x hx; omega
        · obtain rfl := List.mem_singleton.1 hx
          show i < nx
          omega
      · have := h3 x hx; omega
    · refine splF_i b n nx _ _ hr ⟨?_, fun x hx => ?_, fun x hx => ?_, ?_⟩
      · rw [List.map_append, List.map_singleton, ← List.append_assoc]
        exact (List.perm_append_singleton i _).symm.nodup_iff.1 (List.nodup_cons.2 ⟨hnew, h1⟩)
      · have := h2 x hx; omega
      · rcases List.mem_append.1 hx with hx | hx
        · have := h3 x hx; omega
        · obtain rfl := List.mem_singleton.1 hx
          show i < nx
          omega
      · refine List.pairwise_append.2 ⟨h4, by simp, fun a ha e he => ?_⟩
        obtain rfl := List.mem_singleton.1 he
        have := h3 a ha
        show a.1 ≤ i
        omega
theorem spl_i (b : List UInt8) : ∃ j, SplI j (spl b).1 (spl b).2 := by
  unfold spl
  refine splF_i b (b.length + 1) (nxt b 0) [] _ (nxt_room b 0) ⟨?_, (fun x hx => by simp at hx), (fun x hx => ?_), ?_⟩
  · split <;> simp
  · split at hx
    · rename_i h
      obtain rfl := List.mem_singleton.1 hx
      have := trm_le b 0 (nxt b 0)
      show 0 < _
      omega
    · cases hx
  · unfold SrtD; split <;> simp
theorem prs_sub : ∀ (us : List Fnd) (x : PSt × List (Nat × Nat)), ∃ r, (us.foldl stpP x).2 = x.2 ++ r ∧ r.Sublist (us.map fun f => (f.fr, f.to))
  | [], x => ⟨[], by simp, .slnil⟩
  | f :: us, x => by
    obtain ⟨r, h1, h2⟩ := prs_sub us (stpP x f)
    rw [List.foldl_cons, h1, List.map_cons]
    unfold stpP
    split
    · exact ⟨r, rfl, h2.cons _⟩
    · exact ⟨(f.fr, f.to) :: r, by simp, h2.cons_cons _⟩
theorem prs_nodup (b : List UInt8) : SrtD (spl b).2 ∧ (((spl b).2 ++ (prsP (spl b).1).2).map (·.1)).Nodup := by
  obtain ⟨j, h1, h2, h3, h4⟩ := spl_i b
  refine ⟨h4, ?_⟩
  obtain ⟨r, e, hs⟩ := prs_sub (spl b).1 (ps0, [])
  have hr : (prsP (spl b).1).2 = r := by unfold prsP; rw [e]; rfl
  rw [hr, List.map_append]
  have hsub : (r.map (·.1)).Sublist ((spl b).1.map (·.fr)) := by
    have := hs.map (·.1)
    rw [List.map_map] at this
    exact this
  refine List.Nodup.sublist ((List.Sublist.refl _).append hsub) ?_
  exact List.perm_append_comm.nodup_iff.1 h1
theorem prs_len (us : List Fnd) : (prsP us).1.its.length ≤ us.length ∧ (prsP us).2.length ≤ us.length := by
  have hA : ∀ (s : PSt) (t : Int) (q : List UInt8), (accP s t q).1.its.length ≤ s.its.length + 1 := fun s t q => by
    unfold accP
    split
    · cases hc : s.cur with
      | none => simp [PSt.its, hc]
      | some x => dsimp only; split <;> simp [PSt.its, hc]
    · split
      · cases hc : s.cur with
        | none => simp [PSt.its, hc]
        | some x => simp [PSt.its, hc]
      · split
        · exact Nat.le_succ _
        · split
          · split
            · simp [PSt.its]; omega
            · simp [PSt.its]; omega
          · simp [PSt.its]
  have hP : ∀ (d : Int) (s : PSt), (padP d s).its.length = s.its.length := fun d s => by
    unfold padP
    cases hc : s.cur with
    | none => simp [PSt.its, hc]
    | some x => simp [PSt.its, hc]
  have key : ∀ (us : List Fnd) (x : PSt × List (Nat × Nat)), (us.foldl stpP x).1.its.length ≤ x.1.its.length + us.length ∧ (us.foldl stpP x).2.length ≤ x.2.length + us.length := by
    intro us
    induction us with
    | nil => intro x; simp
    | cons f us ih =>
      intro x
      obtain ⟨i1, i2⟩ := ih (stpP x f)
      rw [List.foldl_cons, List.length_cons]
      have h1 := hA x.1 f.t f.p
      have h2 : (stpP x f).1.its.length ≤ x.1.its.length + 1 ∧ (stpP x f).2.length ≤ x.2.length + 1 := by
        unfold stpP
        split
        · exact ⟨by rw [hP]; exact h1, Nat.le_succ _⟩
        · exact ⟨h1, by simp⟩
      omega
  have := key us (ps0, [])
  unfold prsP
  simpa [ps0, PSt.its] using this
/-! ### bounds -/
structure ItB (i : Nat) (y : It) : Prop where
  s : SqOk y.s
  pad : 0 ≤ y.pad ∧ y.pad ≤ 2000000 * (i : Int)
  U : y.U.length ≤ i
  us : y.us.length ≤ i
structure PInv (s : PSt) (i : Nat) : Prop where
  its : ∀ y ∈ s.its, ItB i y
  n : s.its.length ≤ i
  np : s.np ≤ i
theorem ItB.more {i : Nat} {y : It} (h : ItB i y) : ItB (i + 1) y := ⟨h.s, ⟨h.pad.1, by have := h.pad.2; omega⟩, by have := h.U; omega, by have := h.us; omega⟩
theorem ItB.padd {i : Nat} {y : It} (h : ItB i y) {d : Int} (hd : 0 ≤ d ∧ d ≤ 2000000) : ItB (i + 1) { y with pad := y.pad + d } := ⟨h.s, ⟨by have := h.pad.1; show 0 ≤ y.pad + d; omega, by have := h.pad.2; show y.pad + d ≤ _; omega⟩, by have := h.U; show y.U.length ≤ _; omega, by have := h.us; show y.us.length ≤ _; omega⟩
theorem mod_last (l : List It) (x : It) (f : It → It) : (l ++ [x]).modify ((l ++ [x]).length - 1) f = l ++ [f x] := by
  rw [show (l ++ [x]).length - 1 = l.length by simp]
  induction l with
  | nil => rfl
  | cons y r ih => rw [List.cons_append, List.length_cons, List.modify_succ_cons, ih]; rfl
theorem ps0_inv : PInv ps0 0 := ⟨fun y hy => by simp [ps0, PSt.its] at hy, by simp [ps0, PSt.its], Nat.le_refl _⟩
theorem pinv_step {s : PSt} {ds : List (Nat × Nat)} {f : Fnd} {i : Nat} (h : PInv s i) (hb : SqOk (bgn f.t f.p).1.s ∧ (bgn f.t f.p).1.pad = 0 ∧ (bgn f.t f.p).1.U = [] ∧ (bgn f.t f.p).1.us = []) (hf : f.to ≤ f.nx ∧ f.nx ≤ 2000000) : PInv (stpP (s, ds) f).1 (i + 1) := by
  have hd : 0 ≤ (f.nx : Int) - f.to ∧ (f.nx : Int) - f.to ≤ 2000000 := by omega
  have hm : PInv s (i + 1) := ⟨fun y hy => (h.its y hy).more, by have := h.n; omega, by have := h.np; omega⟩
  have hcl : PInv ⟨s.its, none, s.np⟩ (i + 1) := ⟨fun y hy => hm.its y (by simpa [PSt.its] using hy), by have := hm.n; simpa [PSt.its] using this, hm.np⟩
  have hnew : ItB i (bgn f.t f.p).1 := ⟨hb.1, by rw [hb.2.1]; omega, by rw [hb.2.2.1]; simp, by rw [hb.2.2.2]; simp⟩
  have hcur : ∀ x, s.cur = some x → (∀ y ∈ s.pre, ItB (i + 1) y) ∧ ItB i x ∧ s.pre.length + 1 ≤ i := fun x hx => by
    have e : s.its = s.pre ++ [x] := by unfold PSt.its; rw [hx]; rfl
    have h1 := h.its
    have h2 := h.n
    rw [e] at h1 h2
    refine ⟨fun y hy => (h1 y (by simp [hy])).more, h1 x (by simp), by simpa using h2⟩
  have hput : ∀ (x : It) (U : List (List UInt8)) (us : List (Int × List UInt8)), s.cur = some x → U.length ≤ x.U.length + 1 → us.length ≤ x.us.length + 1 → PInv (padP ((f.nx : Int) - f.to) ⟨s.pre, some { x with U := U, us := us }, s.np⟩) (i + 1) := fun x U us hx hU hus => by
    obtain ⟨g1, g2, g3⟩ := hcur x hx
    have := g2.padd hd
    refine ⟨fun y hy => ?_, ?_, hm.np⟩
    · simp only [padP, PSt.its, Option.toList_some, List.mem_append, List.mem_singleton] at hy
      rcases hy with hy | rfl
      · exact g1 y hy
      · exact ⟨this.s, this.pad, by have := g2.U; show U.length ≤ _; omega, by have := g2.us; show us.length ≤ _; omega⟩
    · simp [padP, PSt.its]; omega
  unfold stpP
  dsimp only
  unfold accP
  split
  · cases hc : s.cur with
    | none => exact hm
    | some x =>
      dsimp only
      split
      · exact hput x _ x.us hc (by simp) (by omega)
      · exact hm
  · split
    · cases hc : s.cur with
      | none => exact hm
      | some x => exact hput x x.U _ hc (by omega) (by simp)
    · split
      · exact hm
      · split
        · split
          · have := hnew.padd hd
            refine ⟨fun y hy => ?_, ?_, ?_⟩
            · simp only [if_true, padP, PSt.its, Option.toList_some, List.mem_append, List.mem_singleton] at hy
              rcases hy with hy | rfl
              · exact hm.its y (by simpa [PSt.its] using hy)
              · exact this
            · have := h.n
              simp [padP, PSt.its] at this ⊢; omega
            · have := h.np
              show s.np + 1 ≤ i + 1
              omega
          · have := hnew.padd hd
            simp only [if_true, padP]
            rw [mod_last]
            refine ⟨fun y hy => ?_, ?_, hm.np⟩
            · simp only [PSt.its, Option.toList_none, List.append_nil, List.mem_append, List.mem_singleton] at hy
              rcases hy with hy | rfl
              · exact hm.its y (by simpa [PSt.its] using hy)
              · exact this
            · have := h.n
              simp [PSt.its] at this ⊢; omega
        · exact hcl
/-- What Parse answers. -/
def badP (b : List UInt8) : List (Nat × Nat) := (prsP (spl b).1).2.foldl insD (spl b).2
def parP (b : List UInt8) : List It × List (Nat × Nat) × Int :=
  if 1048576 < b.length then ([], [], 5) else if 256 < (prsP (spl b).1).1.np then ([], [], 5) else ((prsP (spl b).1).1.its, badP b, 0)

end Go.Proofs.YtbhdollgohgkgaaGreatDoor.Sc

namespace Go.Proofs.YtbhdollgohgkgaaGreatDoor.Sc
set_option linter.all false
set_option linter.unusedVariables false
set_option linter.unusedSimpArgs false
open Pm Ty S3 Go.RowKit

/-- An item's cells, with other slices. -/
def itq (x : It) (a b : PV) : List PV := .int .i64 x.k :: (sqc x.s ++ (.bool x.gc :: .bool x.gb :: .int .i64 x.gt :: (pic x.p ++ [a, b, .int .i64 x.pad])))
theorem itq_c (x : It) : itq x (usr x.U) (.slice (uq x.us) x.us.length false) = itc x := rfl
theorem itq_len (x : It) (a b : PV) (h : SqOk x.s) : (itq x a b).length = 148 := by
  unfold itq
  rw [List.length_cons, List.length_append, sqc_l x.s h]; rfl
theorem itq_at (x : It) (a b : PV) (h : SqOk x.s) (n : Nat) : (itq x a b)[136 + n]? = (.bool x.gc :: .bool x.gb :: .int .i64 x.gt :: (pic x.p ++ [a, b, .int .i64 x.pad]))[n]? := by
  unfold itq
  rw [show 136 + n = (135 + n) + 1 by omega, List.getElem?_cons_succ, List.getElem?_append_right (by rw [sqc_l x.s h]; omega), sqc_l x.s h, Nat.add_sub_cancel_left]
theorem itq_set (x : It) (a b : PV) (h : SqOk x.s) (n : Nat) (v : PV) : (itq x a b).set (136 + n) v = .int .i64 x.k :: (sqc x.s ++ (.bool x.gc :: .bool x.gb :: .int .i64 x.gt :: (pic x.p ++ [a, b, .int .i64 x.pad])).set n v) := by
  unfold itq
  rw [show 136 + n = (135 + n) + 1 by omega, List.set_cons_succ, List.set_append_right _ _ (by rw [sqc_l x.s h]; omega), sqc_l x.s h, Nat.add_sub_cancel_left]
theorem itq_sc (n : Nat) (x : It) (a b : PV) (ha : Scoped n a) (hb : Scoped n b) : ∀ y ∈ itq x a b, Scoped n y := fun y hy => by
  unfold itq at hy
  rcases List.mem_cons.1 hy with rfl | hy
  · exact .int _ _
  rcases List.mem_append.1 hy with hy | hy
  · exact sqc_scoped _ _ y hy
  simp only [List.mem_cons, List.mem_append, List.not_mem_nil, or_false] at hy
  rcases hy with rfl | rfl | rfl | hy | rfl | rfl | rfl
  · exact .bool _
  · exact .bool _
  · exact .int _ _
  · exact pic_scV _ _ y hy
  · exact ha
  · exact hb
  · exact .int _ _
theorem itq_cell (x : It) (a b : PV) (ha : a.cell = true) (hb : b.cell = true) : (itq x a b).all PV.cell = true := by
  unfold itq
  have h1 : (sqc x.s).all PV.cell = true := by simp [sqc, bs, PV.cell]
  rw [List.all_cons, List.all_append, h1]
  show (true && (true && (a.cell && (b.cell && true)))) = true
  rw [ha, hb]; rfl
/-- .. behind others. -/
theorem itP_get (pre : List It) (hp : ∀ y ∈ pre, SqOk y.s) (C : List PV) (n : Nat) : (itL pre ++ C)[pre.length * 148 + n]? = C[n]? := by
  rw [List.getElem?_append_right (by rw [itL_len pre hp]; omega), itL_len pre hp, Nat.add_sub_cancel_left]
theorem itP_set (pre : List It) (hp : ∀ y ∈ pre, SqOk y.s) (C : List PV) (n : Nat) (v : PV) : (itL pre ++ C).set (pre.length * 148 + n) v = itL pre ++ C.set n v := by
  rw [List.set_append_right _ _ (by rw [itL_len pre hp]; omega), itL_len pre hp, Nat.add_sub_cancel_left]
structure IqF (pre : List It) (x : It) (a b : PV) : Prop where
  ln : (itL pre ++ itq x a b).length = (pre.length + 1) * 148
  u : (itL pre ++ itq x a b)[pre.length * 148 + 145]? = some a
  s : (itL pre ++ itq x a b)[pre.length * 148 + 146]? = some b
  p : (itL pre ++ itq x a b)[pre.length * 148 + 147]? = some (.int .i64 x.pad)
  su : ∀ v, (itL pre ++ itq x a b).set (pre.length * 148 + 145) v = itL pre ++ itq x v b
  ss : ∀ v, (itL pre ++ itq x a b).set (pre.length * 148 + 146) v = itL pre ++ itq x a v
  sp : ∀ v : Int, (itL pre ++ itq x a b).set (pre.length * 148 + 147) (.int .i64 v) = itL pre ++ itq { x with pad := v } a b
theorem iqF (pre : List It) (x : It) (a b : PV) (hp : ∀ y ∈ pre, SqOk y.s) (hx : SqOk x.s) : IqF pre x a b where
  ln := by rw [List.length_append, itL_len pre hp, itq_len x a b hx, Nat.add_mul, Nat.one_mul]
  u := (itP_get pre hp _ 145).trans (itq_at x a b hx 9)
  s := (itP_get pre hp _ 146).trans (itq_at x a b hx 10)
  p := (itP_get pre hp _ 147).trans (itq_at x a b hx 11)
  su := fun v => (itP_set pre hp _ 145 v).trans (by rw [show (145 : Nat) = 136 + 9 from rfl, itq_set x a b hx 9 v]; rfl)
  ss := fun v => (itP_set pre hp _ 146 v).trans (by rw [show (146 : Nat) = 136 + 10 from rfl, itq_set x a b hx 10 v]; rfl)
  sp := fun v => (itP_set pre hp _ 147 _).trans (by rw [show (147 : Nat) = 136 + 11 from rfl, itq_set x a b hx 11]; rfl)


/-! ### the item that a unit begins -/
def nl0 : PV := .slice [] 0 true
theorem itN_lit (k : Int) : itq (itN k) nl0 nl0 = .int .i64 k :: (sqc zSq ++ [.bool false, .bool false, .int .i64 0, .int .i64 0, .int .i64 0, .int .i64 0, .bool false, .bool false, .bool false, .slice [] 0 true, .slice [] 0 true, .int .i64 0]) := rfl
theorem itN_s (k : Int) (s : Sq) (hs : SqOk s) : List.take 1 (itq (itN k) nl0 nl0) ++ (sqc s ++ List.drop 136 (itq (itN k) nl0 nl0)) = itq { itN k with s := s } nl0 nl0 := by
  rw [itN_lit, List.drop_succ_cons, List.drop_left' (sqc_l zSq zSq_ok)]; rfl
theorem itN_g (k : Int) (a b : Bool) (c : Int) : List.take 136 (itq (itN k) nl0 nl0) ++ .bool a :: .bool b :: .int .i64 c :: List.drop 139 (itq (itN k) nl0 nl0) = itq { itN k with gc := a, gb := b, gt := c } nl0 nl0 := by
  have e1 : List.take 136 (itq (itN k) nl0 nl0) = .int .i64 k :: sqc zSq := by
    rw [itN_lit, List.take_succ_cons, List.take_left' (sqc_l zSq zSq_ok)]
  have e2 : List.drop 139 (itq (itN k) nl0 nl0) = [.int .i64 0, .int .i64 0, .int .i64 0, .bool false, .bool false, .bool false, .slice [] 0 true, .slice [] 0 true, .int .i64 0] := by
    rw [itN_lit, List.drop_succ_cons, show (138 : Nat) = 135 + 3 from rfl, ← List.drop_drop, List.drop_left' (sqc_l zSq zSq_ok)]; rfl
  rw [e1, e2]; rfl
theorem itN_p (k : Int) (p : Pi) : List.take 139 (itq (itN k) nl0 nl0) ++ (pic p ++ List.drop 145 (itq (itN k) nl0 nl0)) = itq { itN k with p := p } nl0 nl0 := by
  have e1 : List.take 139 (itq (itN k) nl0 nl0) = .int .i64 k :: (sqc zSq ++ [.bool false, .bool false, .int .i64 0]) := by
    rw [itN_lit, List.take_succ_cons, show (138 : Nat) = 135 + 3 from rfl, List.take_append, sqc_l zSq zSq_ok, List.take_of_length_le (by rw [sqc_l zSq zSq_ok]; omega)]; rfl
  have e2 : List.drop 145 (itq (itN k) nl0 nl0) = [.slice [] 0 true, .slice [] 0 true, .int .i64 0] := by
    rw [itN_lit, List.drop_succ_cons, show (144 : Nat) = 135 + 9 from rfl, ← List.drop_drop, List.drop_left' (sqc_l zSq zSq_ok)]; rfl
  rw [e1, e2]
  show _ = PV.int .i64 k :: (sqc zSq ++ _)
  simp [itN, nl0]
theorem bgn_ok {t : Int} {q : List UInt8} : SqOk (bgn t q).1.s ∧ (bgn t q).1.pad = 0 ∧ (bgn t q).1.U = [] ∧ (bgn t q).1.us = [] := by
  unfold bgn
  split
  · refine ⟨?_, rfl, rfl, rfl⟩
    show SqOk (takeS true t q).1
    unfold takeS
    split
    · split
      · exact rdS_ok _ _ _
      · exact zSq_ok
    · exact zSq_ok
  · split
    · exact ⟨zSq_ok, rfl, rfl, rfl⟩
    · split
      · exact ⟨zSq_ok, rfl, rfl, rfl⟩
      · split
        · exact ⟨zSq_ok, rfl, rfl, rfl⟩
        · exact ⟨zSq_ok, rfl, rfl, rfl⟩

set_option maxHeartbeats 8000000 in
set_option maxRecDepth 100000 in
theorem begin_ok (t : Int) (q : List UInt8) (H : Heap) (hq : q.length ≤ 1000000) : CallOk Tryz.prog 27 [.agg [.int .i64 t, .slice (bs q) q.length false]] H (.tup [.agg (itq (bgn t q).1 nl0 nl0), .int .i64 (bgn t q).2]) H := by
  have so := fun K => takeS_ok t q false K (by omega)
  have go := fun K => takeG_ok t q false K (by omega)
  have ho := fun K => takeH_ok t q false hq K
  have hsS : SqOk (takeS true t q).1 := by
    unfold takeS
    split
    · split
      · exact rdS_ok _ _ _
      · exact zSq_ok
    · exact zSq_ok
  unfold rvTS at so
  unfold rvTG at go
  have zl : ∀ x : It, SqOk x.s → (itq x nl0 nl0).length = 148 := fun x h => itq_len x _ _ h
  have zc : ∀ x : It, (itq x nl0 nl0).all PV.cell = true := fun x => itq_cell x _ _ rfl rfl
  have zt : ∀ x : It, SqOk x.s → List.take 148 (itq x nl0 nl0) = itq x nl0 nl0 := fun x h => List.take_of_length_le (by rw [zl x h]; omega)
  have hb := bgn_ok (t := t) (q := q)
  have z8 : ((0 : UInt8).toNat : Int) = 0 := rfl
  obtain ⟨Z0, hZ0⟩ : ∃ Z : List PV, Z = itq (itN 0) nl0 nl0 := ⟨_, rfl⟩
  have hlit := hZ0
  rw [itN_lit] at hlit
  simp only [sqc, zSq, z64U, bs, List.replicate_succ, List.replicate_zero, List.map_cons, List.map_nil, List.cons_append, List.nil_append, z8] at hlit
  have zl0 : Z0.length = 148 := by rw [hZ0]; exact zl _ zSq_ok
  have zk : ∀ k : Int, Z0.set 0 (.int .i64 k) = itq (itN k) nl0 nl0 := fun k => by rw [hZ0]; rfl
  have zd : List.drop 148 Z0 = [] := List.drop_of_length_le (by omega)
  have zN : ∀ k : Int, (itq (itN k) nl0 nl0).length = 148 := fun k => zl _ zSq_ok
  refine CallOk.body (F0 := [(0, .agg [.int .i64 t, .slice (bs q) q.length false])]) Tryz.func27 rfl Tryz.ntmps27 Tryz.results27 rfl (by kernel_rfl) rfl ?_
  have zc0 : Z0.all PV.cell = true := by rw [hZ0]; exact zc _
  have zt0 : List.take 148 Z0 = Z0 := List.take_of_length_le (by omega)
  (repeat refine PW.seq ?_); refine PW.rg rfl fun K hK => ?_; simp (maxSteps := 3000000) (disch := omega) only [go_sem, ↓reduceIte, reduceCtorEq, pappend, plen, ← hlit]; refine hK _ _ ?_; clear hK K
  (repeat refine PW.seq ?_); refine PW.rg rfl fun K hK => ?_; simp (maxSteps := 3000000) (disch := omega) only [go_sem, ↓reduceIte, reduceCtorEq, pappend, plen, ← hlit, zl0, zd, zc0, zt0, List.append_nil]; refine hK _ _ ?_; clear hK K
  (repeat refine PW.seq ?_); refine PW.rg rfl fun K hK => ?_; simp (maxSteps := 3000000) (disch := omega) only [go_sem, ↓reduceIte, reduceCtorEq, pappend, plen]; refine hK _ _ ?_; clear hK K
  suffices hm : ∀ x : It, (itq x nl0 nl0).length = 148 → List.take 148 (itq x nl0 nl0) = itq x nl0 nl0 → ∀ e, bgn t q = (x, e) → PW Tryz.prog _ _ [(2, .ptr (H.length + 1) 0 0), (4, .ptr (H.length + 2) 0 0), (5, .int .i64 e)] (H ++ [⟨41, 0, [.int .i64 t, .slice (bs q) q.length false]⟩, ⟨61, 0, Z0⟩, ⟨61, 0, itq x nl0 nl0⟩]) _ by
    have hm' := fun x h => hm x (zl x h) (zt x h)
    (repeat refine PW.seq ?_); refine PW.block ?_
    by_cases t1 : t = 179
    · have d1 : (t == 179) = true := by simp [t1]
      have hB : bgn t q = ({ itN 1 with s := (takeS true t q).1 }, (takeS true t q).2) := by unfold bgn; rw [if_pos t1]
      (repeat refine PW.seq ?_); refine PW.rg rfl fun K hK => ?_; simp (maxSteps := 3000000) (disch := omega) only [go_sem, ↓reduceIte, reduceCtorEq, pappend, plen, d1]; refine hK _ _ ?_; clear hK K
      (repeat refine PW.seq ?_); refine PW.cond (t := _) rfl (fun h => ?_) (fun h => ?_)
      rotate_left
      · cases h
      (repeat refine PW.seq ?_); refine PW.rg rfl fun K hK => ?_; simp (maxSteps := 3000000) (disch := omega) only [go_sem, ↓reduceIte, reduceCtorEq, pappend, plen, zk, zl0]; refine hK _ _ ?_; clear hK K
      have hl := sqc_l _ hsS
      have hz := itN_s 1 _ hsS
      (repeat refine PW.seq ?_); refine PW.rg rfl fun K hK => ?_; simp (maxSteps := 3000000) (disch := omega) only [go_sem, ↓reduceIte, reduceCtorEq, pappend, plen, zN, hl, hz]; refine VCx.call (so _) rfl ?_; simp (maxSteps := 3000000) (disch := omega) only [go_sem, ↓reduceIte, reduceCtorEq, pappend, plen, zN, hl, hz]; refine hK _ _ ?_; clear hK K
      exact PW.at [2, 4, 5] (hm' _ hsS _ hB) rfl rfl
    have d1 : (t == 179) = false := by simpa using t1
    (repeat refine PW.seq ?_); refine PW.rg rfl fun K hK => ?_; simp (maxSteps := 3000000) (disch := omega) only [go_sem, ↓reduceIte, reduceCtorEq, pappend, plen, d1]; refine hK _ _ ?_; clear hK K
    (repeat refine PW.seq ?_); refine PW.cond (t := _) rfl (fun h => ?_) (fun h => ?_)
    · cases h
    by_cases t2 : t = 184
    · have d2 : (t == 184) = true := by simp [t2]
      have hB : bgn t q = ({ itN 2 with gc := (takeG t q).1, gb := (takeG t q).2.1, gt := (takeG t q).2.2.1 }, (takeG t q).2.2.2) := by unfold bgn; rw [if_neg t1, if_pos t2]
      (repeat refine PW.seq ?_); refine PW.rg rfl fun K hK => ?_; simp (maxSteps := 3000000) (disch := omega) only [go_sem, ↓reduceIte, reduceCtorEq, pappend, plen, d2]; refine hK _ _ ?_; clear hK K
      (repeat refine PW.seq ?_); refine PW.cond (t := _) rfl (fun h => ?_) (fun h => ?_)
      rotate_left
      · cases h
      (repeat refine PW.seq ?_); refine PW.rg rfl fun K hK => ?_; simp (maxSteps := 3000000) (disch := omega) only [go_sem, ↓reduceIte, reduceCtorEq, pappend, plen, zk, zl0]; refine hK _ _ ?_; clear hK K
      have hz := itN_g 2 (takeG t q).1 (takeG t q).2.1 (takeG t q).2.2.1
      (repeat refine PW.seq ?_); refine PW.rg rfl fun K hK => ?_; simp (maxSteps := 3000000) (disch := omega) only [go_sem, ↓reduceIte, reduceCtorEq, pappend, plen, zN, hz]; refine VCx.call (go _) rfl ?_; simp (maxSteps := 3000000) (disch := omega) only [go_sem, ↓reduceIte, reduceCtorEq, pappend, plen, zN, hz]; refine hK _ _ ?_; clear hK K
      exact PW.at [2, 4, 5] (hm' _ zSq_ok _ hB) rfl rfl
    have d2 : (t == 184) = false := by simpa using t2
    (repeat refine PW.seq ?_); refine PW.rg rfl fun K hK => ?_; simp (maxSteps := 3000000) (disch := omega) only [go_sem, ↓reduceIte, reduceCtorEq, pappend, plen, d2]; refine hK _ _ ?_; clear hK K
    (repeat refine PW.seq ?_); refine PW.cond (t := _) rfl (fun h => ?_) (fun h => ?_)
    · cases h
    by_cases t3 : t = 181
    · have d3 : (t == 181) = true := by simp [t3]
      have hB : bgn t q = ({ itN 3 with p := (takeH t q).1 }, (takeH t q).2) := by unfold bgn; rw [if_neg t1, if_neg t2, if_pos t3]
      (repeat refine PW.seq ?_); refine PW.rg rfl fun K hK => ?_; simp (maxSteps := 3000000) (disch := omega) only [go_sem, ↓reduceIte, reduceCtorEq, pappend, plen, d3]; refine hK _ _ ?_; clear hK K
      (repeat refine PW.seq ?_); refine PW.cond (t := _) rfl (fun h => ?_) (fun h => ?_)
      rotate_left
      · cases h
      (repeat refine PW.seq ?_); refine PW.rg rfl fun K hK => ?_; simp (maxSteps := 3000000) (disch := omega) only [go_sem, ↓reduceIte, reduceCtorEq, pappend, plen, zk, zl0]; refine hK _ _ ?_; clear hK K
      have hz := itN_p 3 (takeH t q).1
      have pl : (pic (takeH t q).1).length = 6 := rfl
      have pa : (pic (takeH t q).1).all PV.cell = true := rfl
      (repeat refine PW.seq ?_); refine PW.rg rfl fun K hK => ?_; simp (maxSteps := 3000000) (disch := omega) only [go_sem, ↓reduceIte, reduceCtorEq, pappend, plen, zN, pl, pa, hz]; refine VCx.call (ho _) rfl ?_; simp (maxSteps := 3000000) (disch := omega) only [go_sem, ↓reduceIte, reduceCtorEq, pappend, plen, zN, pl, pa, hz]; refine hK _ _ ?_; clear hK K
      exact PW.at [2, 4, 5] (hm' _ zSq_ok _ hB) rfl rfl
    have d3 : (t == 181) = false := by simpa using t3
    (repeat refine PW.seq ?_); refine PW.rg rfl fun K hK => ?_; simp (maxSteps := 3000000) (disch := omega) only [go_sem, ↓reduceIte, reduceCtorEq, pappend, plen, d3]; refine hK _ _ ?_; clear hK K
    (repeat refine PW.seq ?_); refine PW.cond (t := _) rfl (fun h => ?_) (fun h => ?_)
    · cases h
    by_cases t4 : t = 183
    · have d4 : (t == 183) = true := by simp [t4]
      have hB : bgn t q = (itN 4, if q.length = 0 then 0 else 3) := by unfold bgn; rw [if_neg t1, if_neg t2, if_neg t3, if_pos t4]
      (repeat refine PW.seq ?_); refine PW.rg rfl fun K hK => ?_; simp (maxSteps := 3000000) (disch := omega) only [go_sem, ↓reduceIte, reduceCtorEq, pappend, plen, d4]; refine hK _ _ ?_; clear hK K
      (repeat refine PW.seq ?_); refine PW.cond (t := _) rfl (fun h => ?_) (fun h => ?_)
      rotate_left
      · cases h
      (repeat refine PW.seq ?_); refine PW.rg rfl fun K hK => ?_; simp (maxSteps := 3000000) (disch := omega) only [go_sem, ↓reduceIte, reduceCtorEq, pappend, plen, zk, zl0]; refine hK _ _ ?_; clear hK K
      by_cases hq0 : q.length = 0
      · have d5 : decide (0 < (q.length : Int)) = false := decide_eq_false (by omega)
        rw [if_pos hq0] at hB
        (repeat refine PW.seq ?_); refine PW.rg rfl fun K hK => ?_; simp (maxSteps := 3000000) (disch := omega) only [go_sem, ↓reduceIte, reduceCtorEq, pappend, plen, length_bs, d5]; refine hK _ _ ?_; clear hK K
        (repeat refine PW.seq ?_); refine PW.cond (t := _) rfl (fun h => ?_) (fun h => ?_)
        · cases h
        refine PW.skip ?_
        exact PW.at [2, 4, 5] (hm' _ zSq_ok _ hB) rfl rfl
      · have d5 : decide (0 < (q.length : Int)) = true := decide_eq_true (by omega)
        rw [if_neg hq0] at hB
        (repeat refine PW.seq ?_); refine PW.rg rfl fun K hK => ?_; simp (maxSteps := 3000000) (disch := omega) only [go_sem, ↓reduceIte, reduceCtorEq, pappend, plen, length_bs, d5]; refine hK _ _ ?_; clear hK K
        (repeat refine PW.seq ?_); refine PW.cond (t := _) rfl (fun h => ?_) (fun h => ?_)
        rotate_left
        · cases h
        (repeat refine PW.seq ?_); refine PW.rg rfl fun K hK => ?_; simp (maxSteps := 3000000) (disch := omega) only [go_sem, ↓reduceIte, reduceCtorEq, pappend, plen]; refine hK _ _ ?_; clear hK K
        exact PW.at [2, 4, 5] (hm' _ zSq_ok _ hB) rfl rfl
    have d4 : (t == 183) = false := by simpa using t4
    have hB : bgn t q = (itN 0, 0) := by unfold bgn; rw [if_neg t1, if_neg t2, if_neg t3, if_neg t4]
    (repeat refine PW.seq ?_); refine PW.rg rfl fun K hK => ?_; simp (maxSteps := 3000000) (disch := omega) only [go_sem, ↓reduceIte, reduceCtorEq, pappend, plen, d4]; refine hK _ _ ?_; clear hK K
    (repeat refine PW.seq ?_); refine PW.cond (t := _) rfl (fun h => ?_) (fun h => ?_)
    · cases h
    refine PW.skip ?_
    exact PW.at [2, 4, 5] (hm' _ zSq_ok _ hB) rfl (by rw [hZ0])
  intro x x1 x2 e hB
  rw [hB]
  clear so go ho
  generalize hY : itq x nl0 nl0 = Y at *
  (repeat refine PW.seq ?_); refine PW.rg rfl fun K hK => ?_; simp (maxSteps := 3000000) (disch := omega) only [go_sem, ↓reduceIte, reduceCtorEq, pappend, plen, zl0, zd, x1, x2, List.append_nil]; refine hK _ _ ?_; clear hK K
  refine PW.ret ⟨.tup [.agg Y, .int .i64 e], by simp (maxSteps := 3000000) (disch := omega) only [go_sem, ↓reduceIte, reduceCtorEq, pappend, plen, presults, presult, List.mapM_cons, List.mapM_nil, Option.pure_def, Option.bind_eq_bind, Option.bind_some, Array.toList, x1, x2], ?_⟩
  refine Fin.base (.id (.tup (all_scoped fun y hy => ?_)))
  simp only [List.mem_cons, List.not_mem_nil, or_false] at hy
  rcases hy with rfl | rfl
  · rw [← hY]; exact ag_scoped (itq_sc _ _ _ _ (sl_scoped fun x hx => by cases hx) (sl_scoped fun x hx => by cases hx))
  · exact .int _ _

end Go.Proofs.YtbhdollgohgkgaaGreatDoor.Sc
