/-
  Contracts of chapter 31: Make.
-/
import Derived.Test.YtnjnikafhbholaaQj
import Derived.Test.YtnjnikafhbholaaQk
import Derived.Test.YtnjnikafhbholaaPb
namespace Go.Proofs.Ytnjnikafhbholaa.Sc
set_option linter.all false
set_option linter.unusedVariables false
set_option linter.unusedSimpArgs false
open Pm Ty Go.RowKit
open Pl (Pa Sh bump lastC bump_snoc lastC_snoc arr sh kd adj st en pts cpd jn ext shm shn tys)

theorem pts_PB (l : List (Option Sh)) : ∀ i, PB i (pts l i)
  | 0 => ⟨fun p hp => by simp [pts] at hp, Nat.le_refl _⟩
  | i + 1 => by
    have ih := pts_PB l i
    simp only [pts, ext]
    split
    · split
      · exact ih.bump
      · exact ih.snoc rfl
    · split
      · exact ih.bump
      · exact ih.snoc rfl
theorem pts_code {l : List (Option Sh)} {i : Nat} (h : cpd l i = false) : pts l (i + 1) = addC (pts l i) (i : Int) := by
  simp only [pts, ext, h]
  rfl
/-- The parts of a run. -/
theorem qs_pts {l : List (Option Sh)} {a : Nat} {x : Sh} (hx : sh l a = some x) (hs : a = 0 ∨ adj l (a - 1) = false) : ∀ k, a + k ≤ en l a → qs l (arr (tys l a (en l a)) (en l a - a)) a (pts l a) k = pts l (a + k)
  | 0, _ => rfl
  | k + 1, hk => by
    have ih := qs_pts hx hs k (by omega)
    obtain ⟨a1, a2, a3⟩ := Pl.en_spec l a
    have c1 : cpd l (a + k) = arr (tys l a (en l a)) (en l a - a) k := by
      rw [Pl.cpd_run hs a2 a3 hx (by omega) (by omega), show a + k - a = k by omega]
    have c2 : cpd l (a + k) = true → jn l (a + k) = (decide (0 < k) && arr (tys l a (en l a)) (en l a - a) (k - 1)) := fun hc => by
      unfold jn
      have hst : st l (a + k) = a := Pl.st_uniq (by omega) (fun j h1 h2 => a2 j h1 (by omega)) hs
      rw [hst, hc, Bool.and_true]
      by_cases h0 : k = 0
      · subst h0; simp
      · have c3 : cpd l (a + k - 1) = arr (tys l a (en l a)) (en l a - a) (k - 1) := by
          rw [Pl.cpd_run hs a2 a3 hx (by omega) (by omega), show a + k - 1 - a = k - 1 by omega]
        rw [c3, decide_eq_true (by omega : a < a + k), decide_eq_true (by omega : 0 < k)]
    rw [qs, ih, ← c1, show a + (k + 1) = a + k + 1 by omega]
    cases hc : cpd l (a + k) with
    | false =>
      rw [pts_code hc]
      rfl
    | true =>
      rw [← c2 hc]
      simp only [pts, ext, hc, if_true]
      rfl

theorem shOf_ok {s : Sq} {top : Bool} {M : List Ix} {e : Ex} {x : Sh} (h : shOf s top M e = some x) : ∃ k, fnd M e.m M.length = some k ∧ usb s top (ixAt M k) e.fr = true ∧ e.op = 1 ∧ x = ⟨e.m, e.fr, (enAt (ixAt M k).en e.fr.toNat).ty⟩ := by
  unfold shOf at h
  split at h
  · rename_i ho
    cases hf : fnd M e.m M.length with
    | none => rw [hf] at h; cases h
    | some k =>
      rw [hf] at h
      dsimp only at h
      split at h
      · rename_i hu; cases h; exact ⟨k, rfl, hu, ho, rfl⟩
      · cases h
  · cases h
theorem sh_map (s : Sq) (top : Bool) (M : List Ix) (E : List Ex) (i : Nat) (h : i < E.length) : sh (E.map (shOf s top M)) i = shOf s top M (exAt E i) := by
  unfold sh exAt
  rw [List.getElem?_map, List.getElem?_eq_getElem h, List.getD_eq_getElem?_getD, List.getElem?_eq_getElem h]
  rfl
theorem sh_ex {s : Sq} {top : Bool} {M : List Ix} {E : List Ex} {i : Nat} {x : Sh} (h : sh (E.map (shOf s top M)) i = some x) : i < E.length ∧ shOf s top M (exAt E i) = some x := by
  have := Pl.sh_some h
  rw [List.length_map] at this
  exact ⟨this, by rw [← sh_map s top M E i this]; exact h⟩
theorem NB_map (s : Sq) (top : Bool) (M : List Ix) (E : List Ex) (hM : ∀ k, k < M.length → (ixAt M k).en.length ≤ 1000000) : NB (E.map (shOf s top M)) := fun i x hx => by
  obtain ⟨_, h⟩ := sh_ex hx
  obtain ⟨k, hf, hu, _, rfl⟩ := shOf_ok h
  have := usb_rng hu
  have := hM k (fnd_lt hf).1
  dsimp only
  omega

set_option maxHeartbeats 4000000 in
theorem make_ok (s : Sq) (top : Bool) (E : List Ex) (g : Bool) (M : List Ix) (g' : Bool) (H : Heap) (hs : SqOk s) (hv : vseq s = true) (hM : ∀ x ∈ M, SqL x.sq ∧ x.en.length ≤ 1000000) (hMl : M.length ≤ 1000000) (hEl : E.length ≤ 256) (hEs : ∀ n, ∀ x ∈ E.flatMap exc, Scoped n x) :
    CallOk Try.prog 39 [.agg (sqc s), .bool top, .slice (E.flatMap exc) E.length g, .slice (M.flatMap ixc) M.length g'] H (.tup [.agg [.slice ((pts (E.map (shOf s top M)) E.length).flatMap pac) (pts (E.map (shOf s top M)) E.length).length false], .int .i64 0]) H := by
  have vo := fun K => vseq_ok s K hs
  rw [hv] at vo
  have so := fun K => shots_ok s top E g M g' K hs.toL hM hMl (by omega) hEs
  have nb := NB_map s top M E (fun k hk => (hM _ (getD_mem ix0 M k hk)).2)
  have hll : (E.map (shOf s top M)).length = E.length := by rw [List.length_map]
  generalize E.map (shOf s top M) = l at *
  have ls := sqc_len s hs.toL
  have cs := sqc_c s
  have ts : (sqc s).take 135 = sqc s := List.take_of_length_le (by omega)
  have hl4 := sol_len l
  have hlat := sol_at l
  simp only [soc_eq] at hlat
  have hg0 := fun k hk => get_of_take (j := 0) (hlat k hk) (by omega)
  simp only [List.getElem?_cons_zero, Nat.add_zero] at hg0
  have hPB := pts_PB l
  have twe : ∀ a b c d C D, tw (H ++ [a, b, c, d]) (H.length + 2) (H.length + 3) C D = H ++ [a, b, C, D] := fun a b c d C D => by
    unfold tw; rw [hs2, hs3]
  refine CallOk.body (F0 := [(0, .agg (sqc s)), (1, .bool top), (2, .slice (E.flatMap exc) E.length g), (3, .slice (M.flatMap ixc) M.length g')]) Try.func39 rfl Try.ntmps39 Try.results39 rfl (by kernel_rfl) rfl ?_
  (repeat refine PW.seq ?_); refine PW.rg rfl fun K hK => ?_; simp (maxSteps := 3000000) (disch := omega) only [go_sem, ↓reduceIte, reduceCtorEq, pappend, plen, cs]; refine hK _ _ ?_; clear hK K
  (repeat refine PW.seq ?_); refine PW.rg rfl fun K hK => ?_; simp (maxSteps := 3000000) (disch := omega) only [go_sem, ↓reduceIte, reduceCtorEq, pappend, plen, ls, ts]; refine VCx.call (vo _) rfl ?_; simp (maxSteps := 3000000) (disch := omega) only [go_sem, ↓reduceIte, reduceCtorEq, pappend, plen, ls, ts]; refine hK _ _ ?_; clear hK K
  (repeat refine PW.seq ?_); refine PW.cond (t := _) rfl (fun h => ?_) (fun h => ?_)
  · cases h
  refine PW.skip ?_
  (repeat refine PW.seq ?_); refine PW.rg rfl fun K hK => ?_; simp (maxSteps := 3000000) (disch := omega) only [go_sem, ↓reduceIte, reduceCtorEq, pappend, plen]; refine hK _ _ ?_; clear hK K
  (repeat refine PW.seq ?_); refine PW.cond (t := _) rfl (fun h => ?_) (fun h => ?_)
  · cases h
  refine PW.skip ?_
  (repeat refine PW.seq ?_); refine PW.rg rfl fun K hK => ?_; simp (maxSteps := 3000000) (disch := omega) only [go_sem, ↓reduceIte, reduceCtorEq, pappend, plen, ls, ts]; refine VCx.call (so _) rfl ?_; simp (maxSteps := 3000000) (disch := omega) only [go_sem, ↓reduceIte, reduceCtorEq, pappend, plen, ls, ts]; refine hK _ _ ?_; clear hK K
  (repeat refine PW.seq ?_); refine PW.rg rfl fun K hK => ?_; simp (maxSteps := 3000000) (disch := omega) only [go_sem, ↓reduceIte, reduceCtorEq, pappend, plen]; refine hK _ _ ?_; clear hK K
  (repeat refine PW.seq ?_); refine PW.rg rfl fun K hK => ?_; simp (maxSteps := 3000000) (disch := omega) only [go_sem, ↓reduceIte, reduceCtorEq, pappend, plen]; refine hK _ _ ?_; clear hK K
  (repeat refine PW.seq ?_)
  refine PW.view (Vs.ghostH (id := H.length + 2) (j := 0) 77 5 (hp2 _ _ _ _ _) rfl) ?_
  (repeat refine PW.seq ?_); refine PW.block (PW.loop ?_)
  suffices hl1 : ∀ i : Nat, i ≤ E.length → (i = 0 ∨ adj l (i - 1) = false) → PL Try.prog _ _ [(8, .ptr (H.length + 1) 0 0), (10, .slice (l.flatMap soc) E.length false), (11, .ptr (H.length + 2) 0 0), (12, .int .i64 (i : Int))] (H ++ [⟨39, 0, sqc s⟩, ⟨71, 0, [.slice [] 0 true]⟩, bb (H.length + 3) (pts l i).length, pb (pts l i)]) _ by
    refine PL.at [8, 10, 11, 12] (hl1 0 (by omega) (.inl rfl)) rfl ?_
    rw [hs2]
    simp [bb, pb, pts]
  intro i hi hst
  induction hd : E.length - i using Nat.strongRecOn generalizing i with
  | _ d ih =>
    have hbd : BdH (H ++ [⟨39, 0, sqc s⟩, ⟨71, 0, [.slice [] 0 true]⟩, bb (H.length + 3) (pts l i).length, pb (pts l i)]) (H.length + 2) (H.length + 3) (pts l i) := ⟨hp2 _ _ _ _ _, hp3 _ _ _ _ _ _, by omega, fun p hp => by have := (hPB i).1 p hp; omega, by have := (hPB i).2; omega⟩
    refine PL.round ?_; (repeat refine PW.seq ?_); refine PW.rg rfl fun K hK => ?_; simp (maxSteps := 3000000) (disch := omega) only [go_sem, ↓reduceIte, reduceCtorEq, pappend, plen]; refine hK _ _ ?_; clear hK K
    (repeat refine PW.seq ?_); refine PW.cond (t := _) rfl (fun h => ?_) (fun h => ?_)
    rotate_left
    · have h4 : i = E.length := by have := of_decide_eq_false h; omega
      subst h4
      refine PW.exit ?_
      (repeat refine PW.seq ?_)
      refine PW.view (Vs.frzCell (id := H.length + 3) (id' := H.length + 2) (j := 0) (hp3 _ _ _ _ _ _) (hp2 _ _ _ _ _) (by omega) rfl (pal_len _)) ?_
      refine PW.eq rfl (show _ = H ++ [⟨39, 0, sqc s⟩, ⟨71, 0, [.slice [] 0 true]⟩, ⟨153, 0, [.slice ((pts l E.length).flatMap pac) (pts l E.length).length false]⟩, ⟨77, (pts l E.length).length * 5 + 1, []⟩] by rw [hs3, hs2]; rfl) ?_
      (repeat refine PW.seq ?_); refine PW.rg rfl fun K hK => ?_; simp (maxSteps := 3000000) (disch := omega) only [go_sem, ↓reduceIte, reduceCtorEq, pappend, plen, hp1, hp2, hs1]; refine hK _ _ ?_; clear hK K
      refine PW.ret ⟨.tup [.agg [.slice ((pts l E.length).flatMap pac) (pts l E.length).length false], .int .i64 0], by simp (maxSteps := 3000000) (disch := omega) only [go_sem, ↓reduceIte, reduceCtorEq, pappend, plen, presults, presult, List.mapM_cons, List.mapM_nil, Option.pure_def, Option.bind_eq_bind, Option.bind_some, Array.toList, hp1], ?_⟩
      refine Fin.base (.id (.tup fun j x hx => ?_))
      have := List.mem_of_getElem? hx
      simp only [List.mem_cons, List.not_mem_nil, or_false] at this
      rcases this with rfl | rfl
      · exact ag_scoped fun x hx => by
          rw [List.mem_singleton] at hx
          rw [hx]; exact sl_scoped (pal_sc _ _)
      · exact .int _ _
    · have h4 : i < E.length := by have := of_decide_eq_true h; omega
      have h0 := hg0 i (by omega)
      refine PW.skip ?_; (repeat refine PW.seq ?_); refine PW.block ?_
      (repeat refine PW.seq ?_); refine PW.rg rfl fun K hK => ?_; simp (maxSteps := 3000000) (disch := omega) only [go_sem, ↓reduceIte, reduceCtorEq, pappend, plen, h0, hl4, hll]; refine hK _ _ ?_; clear hK K
      (repeat refine PW.seq ?_); refine PW.cond (t := _) rfl (fun h => ?_) (fun h => ?_)
      · have h5 : sh l i = none := by
          cases hh : sh l i with
          | none => rfl
          | some x => rw [hh] at h; cases h
        have hco := code_ok (pts l i) (i : Int) _ _ _ hbd
        rw [← pts_code (Pl.cpd_none h5), twe] at hco
        (repeat refine PW.seq ?_); refine PW.rg rfl fun K hK => ?_; simp (maxSteps := 3000000) (disch := omega) only [go_sem, ↓reduceIte, reduceCtorEq, pappend, plen]; refine VCx.call (hco) rfl ?_; simp (maxSteps := 3000000) (disch := omega) only [go_sem, ↓reduceIte, reduceCtorEq, pappend, plen]; refine hK _ _ ?_; clear hK K
        (repeat refine PW.seq ?_); refine PW.rg rfl fun K hK => ?_; simp (maxSteps := 3000000) (disch := omega) only [go_sem, ↓reduceIte, reduceCtorEq, pappend, plen]; refine hK _ _ ?_; clear hK K
        refine PW.exit ?_
        refine PL.at [8, 10, 11, 12] (ih (E.length - (i + 1)) (by omega) (i + 1) (by omega) (.inr ?_) rfl) rfl rfl
        cases hh : adj l (i + 1 - 1) with
        | false => rfl
        | true =>
          obtain ⟨x, y, q, _⟩ := Pl.adj_ex hh
          rw [Nat.add_sub_cancel, h5] at q
          cases q
      · obtain ⟨x, hx⟩ : ∃ x, sh l i = some x := by
          cases hh : sh l i with
          | none => rw [hh] at h; cases h
          | some x => exact ⟨x, rfl⟩
        have hen := Pl.en_spec l i
        have hle := Pl.en_le (l := l) (i := i) (by omega)
        have hro := run_ok l false i (en l i) (pts l i) (H.length + 2) (H.length + 3) _ i hbd.gi hbd.gj (by omega) (hPB i) (by omega) hen.1 hle
        rw [qs_pts hx hst _ (by omega), show i + (en l i - i) = en l i by omega, twe] at hro
        have hre := fun K => runEnd_ok l false i x K hx nb (by omega)
        rw [hll] at hro hre
        refine PW.skip ?_
        (repeat refine PW.seq ?_); refine PW.rg rfl fun K hK => ?_; simp (maxSteps := 3000000) (disch := omega) only [go_sem, ↓reduceIte, reduceCtorEq, pappend, plen]; refine VCx.call (hre _) rfl ?_; simp (maxSteps := 3000000) (disch := omega) only [go_sem, ↓reduceIte, reduceCtorEq, pappend, plen]; refine hK _ _ ?_; clear hK K
        (repeat refine PW.seq ?_); refine PW.rg rfl fun K hK => ?_; simp (maxSteps := 3000000) (disch := omega) only [go_sem, ↓reduceIte, reduceCtorEq, pappend, plen]; refine VCx.call (hro) rfl ?_; simp (maxSteps := 3000000) (disch := omega) only [go_sem, ↓reduceIte, reduceCtorEq, pappend, plen]; refine hK _ _ ?_; clear hK K
        (repeat refine PW.seq ?_); refine PW.rg rfl fun K hK => ?_; simp (maxSteps := 3000000) (disch := omega) only [go_sem, ↓reduceIte, reduceCtorEq, pappend, plen]; refine hK _ _ ?_; clear hK K
        exact PL.at [8, 10, 11, 12] (ih (E.length - en l i) (by omega) (en l i) (by omega) (.inr hen.2.2) rfl) rfl rfl

end Go.Proofs.Ytnjnikafhbholaa.Sc
