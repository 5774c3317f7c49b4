/-
  Contracts of chapter 12: the complete frames, one after the other.
-/
import Derived.Test.YtahomnplappbpaaGreatDoorYd
import Derived.Test.YtahomnplappbpaaGreatDoorPmRg
namespace Go.Proofs.YtahomnplappbpaaGreatDoor.Sc
set_option linter.all false
set_option linter.unusedVariables false
set_option linter.unusedSimpArgs false
open Pm Ty Go.RowKit

theorem frames_ok (L : List It) (fl : Bool) (H : Heap) : CallOk Tryz.prog 64 [.slice (itL L) L.length fl] H (.func 131 [] [.ptr H.length 0 0]) (H ++ [⟨22, 0, [.slice (itL L) L.length fl]⟩]) := by
  refine CallOk.body (F0 := [(0, .slice (itL L) L.length fl)]) Tryz.func64 rfl Tryz.ntmps64 Tryz.results64 rfl (by kernel_rfl) rfl ?_
  (repeat refine PW.seq ?_); refine PW.rg rfl fun K hK => ?_; simp (maxSteps := 3000000) (disch := omega) only [go_sem, ↓reduceIte, reduceCtorEq, pappend, plen]; refine hK _ _ ?_; clear hK K
  (repeat refine PW.seq ?_); refine PW.rg rfl fun K hK => ?_; simp (maxSteps := 3000000) (disch := omega) only [go_sem, ↓reduceIte, reduceCtorEq, pappend, plen]; refine hK _ _ ?_; clear hK K
  refine PW.ret ⟨.func 131 [] [.ptr H.length 0 0], by simp (maxSteps := 3000000) (disch := omega) only [go_sem, ↓reduceIte, reduceCtorEq, pappend, plen, presults, presult, List.mapM_cons, List.mapM_nil, Option.pure_def, Option.bind_eq_bind, Option.bind_some, Array.toList], ?_⟩
  exact .inl ⟨rfl, rfl⟩

/-! ### bounds -/
structure AsOk (L : List It) (a : As) : Prop where
  sq : SqOk a.sq
  op : OpR L a.op
  lk : -1 ≤ a.lk ∧ a.lk ≤ 2
def FmOk (f : Fm) : Prop := SqOk f.sq ∧ -1 ≤ f.lk ∧ f.lk ≤ 2
theorem item_ak (L : List It) (hL : ∀ x ∈ L, SqOk x.s) (a : As) (k : Nat) (hk : k < L.length) (h : AsOk L a) : AsOk L (a.item L k L[k]).1 ∧ ∀ f, (a.item L k L[k]).2 = some f → FmOk f := by
  obtain ⟨q1, q2, q3⟩ := item_inv L hL a k hk h.sq h.op
  have h0 : -1 ≤ (-1 : Int) ∧ (-1 : Int) ≤ 2 := by omega
  have hl := h.lk
  have key : (-1 ≤ (a.item L k L[k]).1.lk ∧ (a.item L k L[k]).1.lk ≤ 2) ∧ ∀ f, (a.item L k L[k]).2 = some f → -1 ≤ f.lk ∧ f.lk ≤ 2 := by
    unfold As.item
    split
    · unfold As.pic
      split
      · exact ⟨hl, fun f h => by cases h⟩
      · split
        · exact ⟨h0, fun f h => by cases h; exact hl⟩
        · split
          · exact ⟨h0, fun f h => by cases h; exact hl⟩
          · split
            · exact ⟨hl, fun f h => by cases h⟩
            · exact ⟨hl, fun f h => by cases h⟩
    · split
      · unfold As.seq
        split
        · exact ⟨hl, fun f h => by cases h⟩
        · exact ⟨h0, fun f h => by cases h⟩
      · split
        · unfold As.grp
          split
          · exact ⟨h0, fun f h => by cases h⟩
          · split
            · exact ⟨by show -1 ≤ (2 : Int) ∧ (2 : Int) ≤ 2; omega, fun f h => by cases h⟩
            · exact ⟨by show -1 ≤ (0 : Int) ∧ (0 : Int) ≤ 2; omega, fun f h => by cases h⟩
        · split
          · exact ⟨h0, fun f h => by cases h⟩
          · exact ⟨hl, fun f h => by cases h⟩
  exact ⟨⟨q1, q2, key.1⟩, fun f hf => ⟨q3 f hf, key.2 f hf⟩⟩
theorem DpG.mono {d : Dp} {m n : Nat} (h : DpG d m) (hm : m ≤ n) : DpG d n := ⟨⟨h.ok.sq, by have := h.ok.n; omega, h.ok.sh, h.ok.lk, h.ok.new, h.ok.old, h.ok.wt⟩, h.cnt⟩
theorem res_g {d : Dp} {m : Nat} (h : DpG d m) (rs : Bool) : DpG (d.res rs) m := by
  unfold Dp.res
  split
  · obtain ⟨⟨⟨q1, q2, q3, q4, q5, q6, q7⟩, q8⟩, q9⟩ := flush_g h
    have f3 := (flush_f d).2.2.1
    have f4 := flush_len d
    refine ⟨⟨q1, q2, q3, by simp only; omega, by simp only; omega, by simp only; omega, fun h => ?_⟩, q8⟩
    simp only at h
    rw [f3] at h; cases h
  · exact h
theorem lnk_g {d : Dp} {m : Nat} (h : DpG d m) (lk : Int) (hl : -1 ≤ lk ∧ lk ≤ 2) : DpG (d.lnk lk) m := by
  unfold Dp.lnk
  split
  · rename_i hne
    exact ⟨⟨h.ok.sq, h.ok.n, h.ok.sh, by simp only; omega, h.ok.new, h.ok.old, h.ok.wt⟩, h.cnt⟩
  · exact h
theorem step_g {d : Dp} {f : Fm} {m : Nat} (h : DpG d m) (hf : FmOk f) : DpG (d.step f) (m + 1) := frame_g (lnk_g (res_g h _) _ hf.2) hf.1.toL

/-! ### the heap while the frames come -/
def kx (L : List It) (fl : Bool) (n b : Nat) (ob : Obj) : Heap := [⟨22, 0, [.slice (itL L) L.length fl]⟩, ⟨0, 0, [.lp b (.deferred (some []))]⟩, ⟨0, 0, [.lp (b + 1) ob]⟩]
def kH (H : Heap) (L : List It) (fl : Bool) (b : Nat) (ob : Obj) (d : Dp) : Heap := H ++ (dpB (H.length + 1) d :: enB d.en :: kx L fl H.length b ob)
theorem kH_len (H : Heap) (L : List It) (fl : Bool) (b : Nat) (ob : Obj) (d : Dp) : (kH H L fl b ob d).length = H.length + 5 := by simp [kH, kx]
theorem kH_get (H : Heap) (L : List It) (fl : Bool) (b : Nat) (ob : Obj) (d : Dp) (X : Heap) (j : Nat) (hj : j < 5) : (kH H L fl b ob d ++ X)[H.length + j]? = (dpB (H.length + 1) d :: enB d.en :: kx L fl H.length b ob)[j]? := by
  rw [List.getElem?_append_left (by rw [kH_len]; omega), kH, List.getElem?_append_right (by omega), Nat.add_sub_cancel_left]
theorem kH_c (H : Heap) (L : List It) (fl : Bool) (b : Nat) (ob : Obj) (d : Dp) (X : Heap) : (kH H L fl b ob d ++ X)[H.length + 2]? = some ⟨22, 0, [.slice (itL L) L.length fl]⟩ := kH_get H L fl b ob d X 2 (by omega)
theorem kH_l (H : Heap) (L : List It) (fl : Bool) (b : Nat) (ob : Obj) (d : Dp) (X : Heap) : (kH H L fl b ob d ++ X)[H.length + 4]? = some ⟨0, 0, [.lp (b + 1) ob]⟩ := kH_get H L fl b ob d X 4 (by omega)
theorem kH_dp (H : Heap) (L : List It) (fl : Bool) (b : Nat) (ob : Obj) (d : Dp) (X : Heap) : DpH (kH H L fl b ob d ++ X) H.length (H.length + 1) d :=
  ⟨kH_get H L fl b ob d X 0 (by omega), kH_get H L fl b ob d X 1 (by omega), by omega⟩
theorem set_in (H K : Heap) (j : Nat) (B : Blk) : (H ++ K).set (H.length + j) B = H ++ K.set j B := by
  rw [List.set_append_right _ _ (by omega), Nat.add_sub_cancel_left]
theorem kH_tw (H : Heap) (L : List It) (fl : Bool) (b : Nat) (ob : Obj) (d d' : Dp) (X : Heap) : tw (kH H L fl b ob d ++ X) H.length (H.length + 1) (dpB (H.length + 1) d') (enB d'.en) = kH H L fl b ob d' ++ X := by
  rw [tw_app _ _ _ _ _ _ (by rw [kH_len]; omega) (by rw [kH_len]; omega)]
  congr 1
  unfold tw kH
  have e0 := fun K B => set_in H K 0 B
  simp only [Nat.add_zero] at e0
  rw [e0, set_in]
  rfl
theorem kH_set (H : Heap) (L : List It) (fl : Bool) (b : Nat) (ob ob' : Obj) (d : Dp) (X : Heap) : (kH H L fl b ob d ++ X).set (H.length + 4) ⟨0, 0, [.lp (b + 1) ob']⟩ = kH H L fl b ob' d ++ X := by
  rw [List.set_append_left _ _ (by rw [kH_len]; omega)]
  congr 1
  unfold kH
  rw [set_in]
  rfl
theorem kH_sc {H : Heap} {L : List It} {fl : Bool} {b : Nat} {ob : Obj} {d d' : Dp} {X : Heap} (h : HSc (kH H L fl b ob d ++ X)) : HSc (kH H L fl b ob d' ++ X) := by
  rw [← kH_tw H L fl b ob d d' X]
  exact tw_sc (dpB_sc _ _ _ (by simp [kH_len]; omega)) (enB_sc _ _) h

theorem _root_.Go.Proofs.YtahomnplappbpaaGreatDoor.Pm.HSc.snoc {A : Heap} (h : HSc A) {k : Blk} (hk : ∀ x ∈ k.cells, Scoped (A.length + 1) x) : HSc (A ++ [k]) := fun j k' hk' x hx => by
  rw [List.length_append]
  rcases snoc_get hk' with ⟨_, hk'⟩ | ⟨_, rfl⟩
  · exact (h j k' hk' x hx).mono (by simp)
  · exact hk x hx
theorem nth_drop {α : Type} {l : List α} {k : Nat} {x : α} {r : List α} (h : l.drop k = x :: r) : ∃ hk : k < l.length, l[k] = x ∧ l.drop (k + 1) = r := by
  have hk : k < l.length := by
    rcases Nat.lt_or_ge k l.length with h1 | h1
    · exact h1
    · rw [List.drop_eq_nil_of_le h1] at h; cases h
  rw [List.drop_eq_getElem_cons hk] at h
  injection h with h1 h2
  exact ⟨hk, h1, h2⟩
set_option maxHeartbeats 4000000 in
set_option maxRecDepth 100000 in
/-- The iterator, given what every call of its argument does. -/
theorem iter_ok (L : List It) (fl : Bool) (hL : ∀ x ∈ L, SqOk x.s) (hn : L.length ≤ 800000) (H : Heap) (b : Nat) (ob : Obj) (y : PV) (hys : Scoped (H.length + 5) y) (d0 : Dp) (hd0 : DpG d0 0)
    (hy : ∀ (d : Dp) (f : Fm) (X : Heap), DpG d 800000 → FmOk f → YldOk Tryz.prog y [.agg (fmc f)] (kH H L fl b ob d ++ X) (.bool true) (kH H L fl b ob (d.step f) ++ X)) :
    CallOk Tryz.prog 131 [y, .ptr (H.length + 2) 0 0] (kH H L fl b ob d0) (.tup []) (kH H L fl b ob (dpN L (as0 sq0) d0 0 L)) := by
  have ln := itL_len L hL
  have kc := fun d X => kH_c H L fl b ob d X
  have kc0 : (kH H L fl b ob d0)[H.length + 2]? = some ⟨22, 0, [.slice (itL L) L.length fl]⟩ := by have := kc d0 []; rwa [List.append_nil] at this
  have kl := fun d => kH_len H L fl b ob d
  have z0 : asc (as0 sq0) = asc (as0 sq0) := rfl
  refine CallOk.body (F0 := [(0, y), (1, .ptr (H.length + 2) 0 0)]) Tryz.func131 rfl Tryz.ntmps131 Tryz.results131 rfl (by kernel_rfl) rfl ?_
  (repeat refine PW.seq ?_); refine PW.rg rfl fun K hK => ?_; simp (maxSteps := 3000000) (disch := omega) only [go_sem, ↓reduceIte, reduceCtorEq, pappend, plen]; refine hK _ _ ?_; clear hK K
  refine PW.at [0, 1, 3] (?_ : PW _ _ _ [(0, y), (1, .ptr (H.length + 2) 0 0), (3, .ptr (H.length + 5) 0 0)] (kH H L fl b ob d0 ++ [asB (as0 sq0)]) _) (by rw [← kl d0]; rfl) rfl
  (repeat refine PW.seq ?_); refine PW.rg rfl fun K hK => ?_; simp (maxSteps := 3000000) (disch := omega) only [go_sem, ↓reduceIte, reduceCtorEq, pappend, plen, kc]; refine hK _ _ ?_; clear hK K
  (repeat refine PW.seq ?_); refine PW.block (PW.loop ?_)
  suffices hloop : ∀ (r : List It) (k : Nat) (a : As) (d : Dp), L.drop k = r → AsOk L a → DpG d k → k ≤ L.length → dpN L a d k r = dpN L (as0 sq0) d0 0 L →
      PL Tryz.prog _ _ [(0, y), (1, .ptr (H.length + 2) 0 0), (3, .ptr (H.length + 5) 0 0), (9, .int .i64 (L.length : Int)), (10, .int .i64 (k : Int))] (kH H L fl b ob d ++ [asB a]) _ by
    exact PL.at [0, 1, 3, 9, 10] (hloop L 0 (as0 sq0) d0 rfl ⟨⟨by decide, by decide, by decide, by decide, by decide, by decide, rfl, rfl⟩, .inl rfl, by decide⟩ hd0 (by omega) rfl) rfl rfl
  intro r
  induction r with
  | nil =>
    intro k a d hr ha hd hk he
    have hkl : k = L.length := by
      have := List.drop_eq_nil_iff.1 hr
      omega
    subst hkl
    refine PL.round ?_; (repeat refine PW.seq ?_); refine PW.rg rfl fun K hK => ?_; simp (maxSteps := 3000000) (disch := omega) only [go_sem, ↓reduceIte, reduceCtorEq, pappend, plen]; refine hK _ _ ?_; clear hK K
    (repeat refine PW.seq ?_); refine PW.cond (t := _) rfl (fun h => ?_) (fun h => ?_)
    · cases h
    refine PW.exit ?_
    rw [← he]
    refine ⟨_, rfl, ?_⟩
    refine Fin.cut rfl (by rw [kl, kl]) (fun h => ?_) (.id (.tup (by simp)))
    have := kH_sc (X := []) (d' := d) (by rw [List.append_nil]; exact h)
    rwa [List.append_nil] at this
  | cons x r ih =>
    intro k a d hr ha hd hk he
    obtain ⟨hkl, hx, hr2⟩ := nth_drop hr
    refine PL.round ?_; (repeat refine PW.seq ?_); refine PW.rg rfl fun K hK => ?_; simp (maxSteps := 3000000) (disch := omega) only [go_sem, ↓reduceIte, reduceCtorEq, pappend, plen]; refine hK _ _ ?_; clear hK K
    (repeat refine PW.seq ?_); refine PW.cond (t := _) rfl (fun h => ?_) (fun h => ?_)
    rotate_left
    · cases h
    refine PW.skip ?_
    (repeat refine PW.seq ?_); refine PW.block ?_
    (repeat refine PW.seq ?_); refine PW.rg rfl fun K hK => ?_; simp (maxSteps := 3000000) (disch := omega) only [go_sem, ↓reduceIte, reduceCtorEq, pappend, plen]; refine hK _ _ ?_; clear hK K
    have hi : (kH H L fl b ob d ++ [asB a])[H.length + 5]? = some (asB a) := by rw [← kl d]; simp
    have io := item_ok L fl k hkl hL a (H.length + 5) _ hi ha.sq ha.op
    obtain ⟨g1, g2⟩ := item_ak L hL a k hkl ha
    have hset : ∀ b', (kH H L fl b ob d ++ [asB a]).set (H.length + 5) (asB b') = kH H L fl b ob d ++ [asB b'] := fun b' => by rw [← kl d]; simp
    rw [hset] at io
    have e0 : dpN L a d k (x :: r) = dpN L (a.item L k x).1 (d.stepO (a.item L k x).2) ((k : Int) + 1) r := rfl
    rw [e0, ← hx] at he
    have inext := fun (d' : Dp) (h1 : DpG d' (k + 1)) (h2 : d' = d.stepO (a.item L k L[k]).2) => ih (k + 1) (a.item L k L[k]).1 d' hr2 g1 h1 (by omega) (by rw [← he, h2]; rfl)
    have scA : ∀ d' b' , HSc (kH H L fl b ob d0) → HSc (kH H L fl b ob d' ++ [asB b']) := fun d' b' h0 => by
      have h1 : HSc (kH H L fl b ob d') := by
        have := kH_sc (X := []) (d' := d') (by rw [List.append_nil]; exact h0)
        rwa [List.append_nil] at this
      exact HSc.snoc h1 (asc_sc _ _)
    have trim : ∀ d' b' K, Vs (⟨27, kH H L fl b ob d0⟩ : Env) [(0, y), (1, .ptr (H.length + 2) 0 0), (3, .ptr (H.length + 5) 0 0), (9, .int .i64 (L.length : Int)), (10, .int .i64 ((k + 1 : Nat) : Int))] ((kH H L fl b ob d' ++ [asB b']) ++ K) [(0, y), (1, .ptr (H.length + 2) 0 0), (3, .ptr (H.length + 5) 0 0), (9, .int .i64 (L.length : Int)), (10, .int .i64 ((k + 1 : Nat) : Int))] (kH H L fl b ob d' ++ [asB b']) := fun d' b' K => by
      have hl1 : (kH H L fl b ob d' ++ [asB b']).length = H.length + 6 := by simp [kH_len]
      refine Vs.trim (scA d' b') (by rw [hl1, kH_len]; omega) rfl ?_
      rw [hl1]
      exact ⟨.id (hys.mono (by omega)), .id (.ptr (by omega)), .id (.ptr (by omega)), .id (.int _ _), .id (.int _ _), trivial⟩
    generalize a.item L k L[k] = q at *
    obtain ⟨a', o⟩ := q
    cases o with
    | none =>
      have z1 : (fmc fm0).length = 145 := rfl
      have z5 : (fmc fm0).all PV.cell = true := rfl
      have z6 : List.take 145 (fmc fm0) = fmc fm0 := rfl
      unfold fmO at io
      dsimp only at io
      (repeat refine PW.seq ?_); refine PW.rg rfl fun K hK => ?_; simp (maxSteps := 3000000) (disch := omega) only [go_sem, ↓reduceIte, reduceCtorEq, pappend, plen, kc]; refine VCx.call (io) rfl ?_; simp (maxSteps := 3000000) (disch := omega) only [go_sem, ↓reduceIte, reduceCtorEq, pappend, plen, z1, z5, z6]; refine hK _ _ ?_; clear hK K
      (repeat refine PW.seq ?_); refine PW.rg rfl fun K hK => ?_; simp (maxSteps := 3000000) (disch := omega) only [go_sem, ↓reduceIte, reduceCtorEq, pappend, plen]; refine hK _ _ ?_; clear hK K
      (repeat refine PW.seq ?_); refine PW.cond (t := _) rfl (fun h => ?_) (fun h => ?_)
      · cases h
      refine PW.skip ?_
      (repeat refine PW.seq ?_); refine PW.rg rfl fun K hK => ?_; simp (maxSteps := 3000000) (disch := omega) only [go_sem, ↓reduceIte, reduceCtorEq, pappend, plen]; refine hK _ _ ?_; clear hK K
      refine PL.keep [0, 1, 3, 9, 10] ?_
      refine PL.view ?_ (inext d (hd.mono (by omega)) rfl)
      have := trim d a' [⟨152, 0, fmc fm0⟩]
      rw [List.append_assoc] at this
      exact this
    | some f =>
      obtain ⟨hf1, hf2⟩ := g2 f rfl
      have z1 := fmc_len f hf1.toL
      have z5 := fmc_cell f
      have z6 : List.take 145 (fmc f) = fmc f := List.take_of_length_le (by omega)
      unfold fmO at io
      dsimp only at io
      (repeat refine PW.seq ?_); refine PW.rg rfl fun K hK => ?_; simp (maxSteps := 3000000) (disch := omega) only [go_sem, ↓reduceIte, reduceCtorEq, pappend, plen, kc]; refine VCx.call (io) rfl ?_; simp (maxSteps := 3000000) (disch := omega) only [go_sem, ↓reduceIte, reduceCtorEq, pappend, plen, z1, z5, z6]; refine hK _ _ ?_; clear hK K
      have yo := hy d f [asB a', ⟨152, 0, fmc f⟩] (hd.mono (by omega)) ⟨hf1, hf2⟩
      (repeat refine PW.seq ?_); refine PW.ry 4 rfl rfl rfl rfl fun K hK => ?_
      simp (maxSteps := 3000000) (disch := omega) only [go_sem, ↓reduceIte, reduceCtorEq, pappend, plen, z1, z6]
      refine ⟨rfl, .bool true, _, yo, ?_⟩
      simp (maxSteps := 3000000) (disch := omega) only [go_sem, ↓reduceIte, reduceCtorEq, pappend, plen]
      refine hK _ _ ?_; clear hK K
      (repeat refine PW.seq ?_); refine PW.cond (t := _) rfl (fun h => ?_) (fun h => ?_)
      · cases h
      refine PW.skip ?_
      (repeat refine PW.seq ?_); refine PW.rg rfl fun K hK => ?_; simp (maxSteps := 3000000) (disch := omega) only [go_sem, ↓reduceIte, reduceCtorEq, pappend, plen]; refine hK _ _ ?_; clear hK K
      refine PL.keep [0, 1, 3, 9, 10] ?_
      refine PL.view ?_ (inext (d.step f) (step_g hd ⟨hf1, hf2⟩) rfl)
      have := trim (d.step f) a' [⟨152, 0, fmc f⟩]
      rw [List.append_assoc] at this
      exact this

end Go.Proofs.YtahomnplappbpaaGreatDoor.Sc
