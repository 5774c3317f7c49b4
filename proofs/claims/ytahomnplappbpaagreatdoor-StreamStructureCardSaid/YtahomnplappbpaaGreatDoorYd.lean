/-
  Contracts of chapter 12: an item is assembled; the frames of a list of items.
-/
import Derived.Test.YtahomnplappbpaaGreatDoorYc
import Derived.Test.YtahomnplappbpaaGreatDoorPmRf
namespace Go.Proofs.YtahomnplappbpaaGreatDoor.Sc
set_option linter.all false
set_option linter.unusedVariables false
set_option linter.unusedSimpArgs false
open Pm Ty Go.RowKit

theorem neSqG (s t : Sq) (hs : SqL s) (ht : SqL t) : peqG Tryz.prog .neq 38 (.agg (sqc s)) (.agg (sqc t)) = some (.bool (!sqE s t)) := by
  have e : ∀ x y, peqG Tryz.prog .neq 38 x y = match peqT Tryz.prog 12 38 x y with | some b => peq .neq b | none => none := fun x y => by kernel_rfl
  rw [e, peqT_sq, peqF_ap _ _ _ _ _ _ (sq2_def _ _ _ _ _ _ _ _ (rdIa s hs) (rdIa t ht) (eqU _ _ hs.ia ht.ia) (rdIe s hs) (rdIe t ht) (eqU _ _ hs.ie ht.ie)) (sqF6 Tryz.prog) (sqA s t) (sq6 ..)]
  rfl
theorem asc_ssq (a : As) (s : Sq) (ha : SqL a.sq) : (asc a).drop 135 = [.bool a.kn, .int .i64 a.op, .bool a.rs, .int .i64 a.lk] := List.drop_left' (sqc_len _ ha)
set_option maxHeartbeats 4000000 in
set_option maxRecDepth 100000 in
theorem item_ok (L : List It) (fl : Bool) (k : Nat) (hk : k < L.length) (hL : ∀ x ∈ L, SqOk x.s) (a : As) (i : Nat) (H : Heap) (hi : H[i]? = some (asB a)) (ha : SqOk a.sq) (hop : OpR L a.op) :
    CallOk Tryz.prog 132 [.ptr i 0 0, .slice (itL L) L.length fl, .int .i64 (k : Int)] H (fmO (a.item L k L[k]).2) (H.set i (asB (a.item L k L[k]).1)) := by
  have hil : i < H.length := (List.getElem?_eq_some_iff.1 hi).1
  have ha' := ha.toL
  have hi' : ∀ K, (H ++ K)[i]? = some (asB a) := fun K => by rw [List.getElem?_append_left hil]; exact hi
  have pc := fun K => aspic_ok L fl k hk hL a i (H ++ K) (hi' K) ha hop
  have ln := itL_len L hL
  have hx := hL _ (List.getElem_mem hk)
  have ik := itL_get L hL k 0 hk (by omega)
  have is : List.take 135 (List.drop (k * 148 + 1) (itL L)) = sqc L[k].s := by rw [itL_sub L hL k 1 135 hk (by omega)]; exact itc_s _ hx
  have ic : (itL L)[k * 148 + 136]? = some (.bool L[k].gc) := by rw [itL_get L hL k 136 hk (by omega)]; exact itc_at _ hx 0
  have ib : (itL L)[k * 148 + 137]? = some (.bool L[k].gb) := by rw [itL_get L hL k 137 hk (by omega)]; exact itc_at _ hx 1
  rw [itc_0, Nat.add_zero] at ik
  have vs := fun K => vseq_ok L[k].s K hx
  have ne := neSqG a.sq L[k].s ha' hx.toL
  have q1 := sqc_len _ hx.toL
  have q2 := sqc_cell L[k].s
  have af := fun b o K => as_fin H K i b (fmO o) hil (fmO_sc _ _)
  have hX4 : ∀ K b, (H ++ K).set i (asB b) = H.set i (asB b) ++ K := fun K b => List.set_append_left _ _ hil
  simp only [hX4] at pc
  generalize hr : a.item L k L[k] = r
  unfold As.item at hr
  generalize L[k] = x at *
  have z1 : (fmc fm0).length = 145 := rfl
  have z3 : List.drop 145 (fmc fm0) = [] := rfl
  have hlen : ∀ b, (H.set i (asB b)).length = H.length := fun b => by simp
  have hY0 : ∀ b F, (H.set i (asB b) ++ [F])[H.length]? = some F := fun b F => by rw [List.getElem?_append_right (by simp)]; simp
  have hYs : ∀ b F B, (H.set i (asB b) ++ [F]).set H.length B = H.set i (asB b) ++ [B] := fun b F B => by rw [List.set_append_right _ _ (by simp)]; simp
  have hYi : ∀ b K, (H.set i (asB b) ++ K)[i]? = some ⟨220, 0, asc b⟩ := fun b K => by rw [List.getElem?_append_left (by simp; omega), List.getElem?_set_self hil]; rfl
  have hYj : ∀ b K c, (H.set i (asB b) ++ K).set i ⟨220, 0, asc c⟩ = H.set i (asB c) ++ K := fun b K c => by rw [List.set_append_left _ _ (by simp; omega), List.set_set]; rfl
  have hret : ∀ b f v (Fx : Fr) (Y : Heap), slot Fx 6 = .ptr H.length 0 0 → slot Fx 7 = .bool v → Y = H.set i (asB b) ++ [⟨152, 0, fmc f⟩] → fmO r.2 = .tup [.agg (fmc f), .bool v] → b = r.1 → SqL f.sq → retQ Tryz.prog [.cell 6 152, .tmp 7] (Pm.Fin H (fmO r.2) (H.set i (asB r.1))) .ret Fx Y := fun b f v Fx Y h6 h7 e3 e1 e2 hf => by
    subst e3
    have w1 := fmc_len f hf
    have w2 : List.take 145 (fmc f) = fmc f := List.take_of_length_le (by omega)
    refine ⟨.tup [.agg (fmc f), .bool v], by simp (maxSteps := 3000000) (disch := omega) only [go_sem, ↓reduceIte, reduceCtorEq, pappend, plen, hY0, w1, w2, h6, h7, presults, presult, List.mapM_cons, List.mapM_nil, Option.pure_def, Option.bind_eq_bind, Option.bind_some], ?_⟩
    have := af b r.2 [⟨152, 0, fmc f⟩]
    rw [e1] at this ⊢
    rw [e2] at this ⊢
    exact this
  refine CallOk.body (F0 := [(0, .ptr i 0 0), (1, .slice (itL L) L.length fl), (2, .int .i64 (k : Int))]) Tryz.func132 rfl Tryz.ntmps132 Tryz.results132 rfl (by kernel_rfl) rfl ?_
  (repeat refine PW.seq ?_); refine PW.rg rfl fun K hK => ?_; simp (maxSteps := 3000000) (disch := omega) only [go_sem, ↓reduceIte, reduceCtorEq, pappend, plen]; refine hK _ _ ?_; clear hK K
  refine PW.at [0, 1, 2, 6, 7] (?_ : PW _ _ _ [(0, .ptr i 0 0), (1, .slice (itL L) L.length fl), (2, .int .i64 (k : Int)), (6, .ptr H.length 0 0), (7, .bool false)] (H.set i (asB a) ++ [⟨152, 0, fmc fm0⟩]) _) rfl (by rw [set_id hi]; rfl)
  (repeat refine PW.seq ?_); refine PW.rg rfl fun K hK => ?_; simp (maxSteps := 3000000) (disch := omega) only [go_sem, ↓reduceIte, reduceCtorEq, pappend, plen, ln]; refine hK _ _ ?_; clear hK K
  (repeat refine PW.seq ?_); refine PW.rg rfl fun K hK => ?_; simp (maxSteps := 3000000) (disch := omega) only [go_sem, ↓reduceIte, reduceCtorEq, pappend, plen, ln, ik]; refine hK _ _ ?_; clear hK K
  by_cases h3 : x.k = 3
  · rw [if_pos h3] at hr
    (repeat refine PW.seq ?_); refine PW.cond (t := _) rfl (fun h => ?_) (fun h => ?_)
    rotate_left
    · simp [h3] at h
    rw [set_id hi]
    have pc' := pc [⟨152, 0, fmc fm0⟩]
    have hfm : ∃ f v, fmO (a.pic L k x.p).2 = .tup [.agg (fmc f), .bool v] ∧ SqL f.sq := by
      unfold As.pic
      split
      · exact ⟨fm0, false, rfl, ⟨rfl, rfl⟩⟩
      · split
        · exact ⟨_, true, rfl, ha'⟩
        · split
          · exact ⟨_, true, rfl, ha'⟩
          · split
            · exact ⟨fm0, false, rfl, ⟨rfl, rfl⟩⟩
            · exact ⟨fm0, false, rfl, ⟨rfl, rfl⟩⟩
    obtain ⟨f, v, e1, hf⟩ := hfm
    have w1 := fmc_len f hf
    rw [e1] at pc'
    (repeat refine PW.seq ?_); refine PW.rg rfl fun K hK => ?_; simp (maxSteps := 3000000) (disch := omega) only [go_sem, ↓reduceIte, reduceCtorEq, pappend, plen]; refine VCx.call (pc') rfl ?_; simp (maxSteps := 3000000) (disch := omega) only [go_sem, ↓reduceIte, reduceCtorEq, pappend, plen, hY0, hYs, z1, z3, w1, fmc_cell, List.append_nil]; refine hK _ _ ?_; clear hK K
    refine PW.ret (hret _ f v _ _ rfl rfl rfl ?_ ?_ hf)
    · rw [← hr]; exact e1
    · rw [← hr]
  rw [if_neg h3] at hr
  (repeat refine PW.seq ?_); refine PW.cond (t := _) rfl (fun h => ?_) (fun h => ?_)
  · simp [h3] at h
  have l1 := asc_len a ha'
  have s1 := asc_sop a ha' (-1)
  refine PW.skip ?_
  (repeat refine PW.seq ?_); refine PW.rg rfl fun K hK => ?_; simp (maxSteps := 3000000) (disch := omega) only [go_sem, ↓reduceIte, reduceCtorEq, pappend, plen, hYi, hYj, l1, s1]; refine hK _ _ ?_; clear hK K
  (repeat refine PW.seq ?_); refine PW.rg rfl fun K hK => ?_; simp (maxSteps := 3000000) (disch := omega) only [go_sem, ↓reduceIte, reduceCtorEq, pappend, plen, ln, ik]; refine hK _ _ ?_; clear hK K
  have hz : SqL fm0.sq := ⟨rfl, rfl⟩
  have z5 : (fmc fm0).all PV.cell = true := rfl
  have l2 := asc_len { a with op := -1 } ha'
  have clr := fun X hX => clear_ok { a with op := -1 } i X hX ha'
  have hXa : ∀ b K, (H.set i (asB b) ++ K)[i]? = some (asB b) := fun b K => hYi b K
  have hXs : ∀ b c K, (H.set i (asB b) ++ K).set i (asB c) = H.set i (asB c) ++ K := fun b c K => hYj b K c
  have clr' := fun K => clr _ (hXa { a with op := -1 } K)
  simp only [hXs] at clr'
  have l3 := asc_len (As.clr { a with op := -1 }) ha'
  refine PW.at [0, 6, 7, 8, 29] (?_ : PW _ _ _ [(0, .ptr i 0 0), (6, .ptr H.length 0 0), (7, .bool false), (8, .ip (itL L) (k * 148)), (29, .int .i64 x.k)] (H.set i (asB { a with op := -1 }) ++ [⟨152, 0, fmc fm0⟩]) _) rfl rfl
  (repeat refine PW.seq ?_); refine PW.block ?_
  (repeat refine PW.seq ?_); refine PW.rg rfl fun K hK => ?_; simp (maxSteps := 3000000) (disch := omega) only [go_sem, ↓reduceIte, reduceCtorEq, pappend, plen]; refine hK _ _ ?_; clear hK K
  by_cases h1 : x.k = 1
  · rw [if_pos h1] at hr
    (repeat refine PW.seq ?_); refine PW.cond (t := _) rfl (fun h => ?_) (fun h => ?_)
    rotate_left
    · simp [h1] at h
    unfold As.seq at hr
    dsimp only at hr
    have u1 := asc_sq { a with op := -1 } ha'
    have u2 := asc_kn { a with op := -1 } ha'
    dsimp only at u1 u2
    suffices hrest : PW Tryz.prog _ _ [(0, .ptr i 0 0), (6, .ptr H.length 0 0), (7, .bool false), (8, .ip (itL L) (k * 148)), (47, .bool (!(a.kn && sqE a.sq x.s)))] (H.set i (asB { a with op := -1 }) ++ [⟨152, 0, fmc fm0⟩]) _ by
      cases hkn : a.kn with
      | false =>
        rw [hkn] at hrest l2 u1 u2
        (repeat refine PW.seq ?_); refine PW.drawg mix (by kernel_rfl) fun K hK => ?_; simp (maxSteps := 3000000) (disch := omega) only [go_sem, ↓reduceIte, reduceCtorEq, pappend, plen, hYi, l2, u1, u2]; refine hK _ _ ?_; clear hK K
        exact PW.at [0, 6, 7, 8, 47] hrest rfl rfl
      | true =>
        rw [hkn] at hrest l2 u1 u2
        (repeat refine PW.seq ?_); refine PW.drawg mix (by kernel_rfl) fun K hK => ?_; simp (maxSteps := 3000000) (disch := omega) only [go_sem, ↓reduceIte, reduceCtorEq, pappend, plen, hYi, l2, u1, u2, ln, is, ↓ne]; refine hK _ _ ?_; clear hK K
        exact PW.at [0, 6, 7, 8, 47] hrest rfl rfl
    cases hk2 : (a.kn && sqE a.sq x.s) with
    | true =>
      rw [if_pos hk2] at hr
      (repeat refine PW.seq ?_); refine PW.cond (t := _) rfl (fun h => ?_) (fun h => ?_)
      · cases h
      refine PW.skip ?_
      (repeat refine PW.seq ?_); refine PW.rg rfl fun K hK => ?_; simp (maxSteps := 3000000) (disch := omega) only [go_sem, ↓reduceIte, reduceCtorEq, pappend, plen, hY0, hYs, z1, z3, z5]; refine hK _ _ ?_; clear hK K
      refine PW.ret (hret { a with op := -1 } fm0 false _ _ rfl rfl rfl ?_ ?_ hz)
      · subst hr; rfl
      · subst hr; rfl
    | false =>
      rw [if_neg (by rw [hk2]; simp)] at hr
      (repeat refine PW.seq ?_); refine PW.cond (t := _) rfl (fun h => ?_) (fun h => ?_)
      rotate_left
      · cases h
      (repeat refine PW.seq ?_); refine PW.rg rfl fun K hK => ?_; simp (maxSteps := 3000000) (disch := omega) only [go_sem, ↓reduceIte, reduceCtorEq, pappend, plen]; refine VCx.call (clr' _) rfl ?_; simp (maxSteps := 3000000) (disch := omega) only [go_sem, ↓reduceIte, reduceCtorEq, pappend, plen]; refine hK _ _ ?_; clear hK K
      have d1 := asc_ssq (As.clr { a with op := -1 }) a.sq ha'
      have d2 : ∀ X v, (sqc x.s ++ X).set 135 v = sqc x.s ++ X.set 0 v := fun X v => by
        rw [List.set_append_right _ _ (by rw [q1]; omega), q1]
      have d3 : List.take 135 (sqc x.s) = sqc x.s := List.take_of_length_le (by omega)
      have d4 : (H.set i (asB (As.clr { a with op := -1 })))[i]? = some ⟨220, 0, asc (As.clr { a with op := -1 })⟩ := by rw [List.getElem?_set_self hil]; rfl
      have d5 : ∀ K B, ((H.set i (asB (As.clr { a with op := -1 })) ++ K).set i B)[i]? = some B := fun K B => by rw [List.getElem?_set_self (by simp; omega)]
      (repeat refine PW.seq ?_); refine PW.drawi [i] [(0, [0]), (50, [0]), (51, [0]), (61, [0]), (62, [0]), (63, [0]), (64, [0])] [] [60] mix (by kernel_rfl) (by simp <;> omega) fun K hK => ?_
      simp (maxSteps := 3000000) (disch := omega) only [go_sem, ↓reduceIte, reduceCtorEq, pappend, plen, hYi, l3, ln, is, q1, q2]
      refine VCj.read (fun _ _ => vs _) rfl ?_; simp (maxSteps := 3000000) (disch := omega) only [go_sem, ↓reduceIte, reduceCtorEq, pappend, plen, hYi, d1, d2, d5, l3, q1, q2, List.length_append, List.set_set]; refine hK _ _ ?_; clear hK K
      refine PW.at [0, 6, 7] (?_ : PW _ _ _ [(0, .ptr i 0 0), (6, .ptr H.length 0 0), (7, .bool false)] (H.set i (asB { As.clr { a with op := -1 } with sq := x.s, kn := vseq x.s }) ++ [⟨152, 0, fmc fm0⟩]) _) rfl (hYj _ _ { As.clr { a with op := -1 } with sq := x.s, kn := vseq x.s })
      (repeat refine PW.seq ?_); refine PW.rg rfl fun K hK => ?_; simp (maxSteps := 3000000) (disch := omega) only [go_sem, ↓reduceIte, reduceCtorEq, pappend, plen, hY0, hYs, z1, z3, z5]; refine hK _ _ ?_; clear hK K
      refine PW.ret (hret { As.clr { a with op := -1 } with sq := x.s, kn := vseq x.s } fm0 false _ _ rfl rfl rfl ?_ ?_ hz)
      · subst hr; rfl
      · subst hr; rfl
  rw [if_neg h1] at hr
  (repeat refine PW.seq ?_); refine PW.cond (t := _) rfl (fun h => ?_) (fun h => ?_)
  · simp [h1] at h
  (repeat refine PW.seq ?_); refine PW.rg rfl fun K hK => ?_; simp (maxSteps := 3000000) (disch := omega) only [go_sem, ↓reduceIte, reduceCtorEq, pappend, plen]; refine hK _ _ ?_; clear hK K
  by_cases h2 : x.k = 2
  · rw [if_pos h2] at hr
    (repeat refine PW.seq ?_); refine PW.cond (t := _) rfl (fun h => ?_) (fun h => ?_)
    rotate_left
    · simp [h2] at h
    unfold As.grp at hr
    (repeat refine PW.seq ?_); refine PW.block ?_
    (repeat refine PW.seq ?_); refine PW.rg rfl fun K hK => ?_; simp (maxSteps := 3000000) (disch := omega) only [go_sem, ↓reduceIte, reduceCtorEq, pappend, plen, ln, ic]; refine hK _ _ ?_; clear hK K
    cases hc : x.gc with
    | true =>
      rw [hc] at hr
      (repeat refine PW.seq ?_); refine PW.cond (t := _) rfl (fun h => ?_) (fun h => ?_)
      rotate_left
      · cases h
      (repeat refine PW.seq ?_); refine PW.rg rfl fun K hK => ?_; simp (maxSteps := 3000000) (disch := omega) only [go_sem, ↓reduceIte, reduceCtorEq, pappend, plen]; refine VCx.call (clr' _) rfl ?_; simp (maxSteps := 3000000) (disch := omega) only [go_sem, ↓reduceIte, reduceCtorEq, pappend, plen]; refine hK _ _ ?_; clear hK K
      (repeat refine PW.seq ?_); refine PW.rg rfl fun K hK => ?_; simp (maxSteps := 3000000) (disch := omega) only [go_sem, ↓reduceIte, reduceCtorEq, pappend, plen, hY0, hYs, z1, z3, z5]; refine hK _ _ ?_; clear hK K
      refine PW.ret (hret (As.clr { a with op := -1 }) fm0 false _ _ rfl rfl rfl ?_ ?_ hz)
      · subst hr; rfl
      · subst hr; rfl
    | false =>
      rw [hc] at hr
      (repeat refine PW.seq ?_); refine PW.cond (t := _) rfl (fun h => ?_) (fun h => ?_)
      · cases h
      (repeat refine PW.seq ?_); refine PW.rg rfl fun K hK => ?_; simp (maxSteps := 3000000) (disch := omega) only [go_sem, ↓reduceIte, reduceCtorEq, pappend, plen, ln, ib]; refine hK _ _ ?_; clear hK K
      cases hb : x.gb with
      | true =>
        rw [hb] at hr
        (repeat refine PW.seq ?_); refine PW.cond (t := _) rfl (fun h => ?_) (fun h => ?_)
        rotate_left
        · cases h
        have s4 := asc_slk { a with op := -1 } ha' 2
        dsimp only at s4
        (repeat refine PW.seq ?_); refine PW.rg rfl fun K hK => ?_; simp (maxSteps := 3000000) (disch := omega) only [go_sem, ↓reduceIte, reduceCtorEq, pappend, plen, hYi, hYj, l2, s4]; refine hK _ _ ?_; clear hK K
        (repeat refine PW.seq ?_); refine PW.rg rfl fun K hK => ?_; simp (maxSteps := 3000000) (disch := omega) only [go_sem, ↓reduceIte, reduceCtorEq, pappend, plen, hY0, hYs, z1, z3, z5]; refine hK _ _ ?_; clear hK K
        refine PW.ret (hret { a with op := -1, lk := 2 } fm0 false _ _ rfl rfl rfl ?_ ?_ hz)
        · subst hr; rfl
        · subst hr; rfl
      | false =>
        rw [hb] at hr
        (repeat refine PW.seq ?_); refine PW.cond (t := _) rfl (fun h => ?_) (fun h => ?_)
        · cases h
        have s4 := asc_slk { a with op := -1 } ha' 0
        dsimp only at s4
        (repeat refine PW.seq ?_); refine PW.rg rfl fun K hK => ?_; simp (maxSteps := 3000000) (disch := omega) only [go_sem, ↓reduceIte, reduceCtorEq, pappend, plen, hYi, hYj, l2, s4]; refine hK _ _ ?_; clear hK K
        (repeat refine PW.seq ?_); refine PW.rg rfl fun K hK => ?_; simp (maxSteps := 3000000) (disch := omega) only [go_sem, ↓reduceIte, reduceCtorEq, pappend, plen, hY0, hYs, z1, z3, z5]; refine hK _ _ ?_; clear hK K
        refine PW.ret (hret { a with op := -1, lk := 0 } fm0 false _ _ rfl rfl rfl ?_ ?_ hz)
        · subst hr; rfl
        · subst hr; rfl
  rw [if_neg h2] at hr
  (repeat refine PW.seq ?_); refine PW.cond (t := _) rfl (fun h => ?_) (fun h => ?_)
  · simp [h2] at h
  (repeat refine PW.seq ?_); refine PW.rg rfl fun K hK => ?_; simp (maxSteps := 3000000) (disch := omega) only [go_sem, ↓reduceIte, reduceCtorEq, pappend, plen]; refine hK _ _ ?_; clear hK K
  by_cases h4 : x.k = 4
  · rw [if_pos h4] at hr
    (repeat refine PW.seq ?_); refine PW.cond (t := _) rfl (fun h => ?_) (fun h => ?_)
    rotate_left
    · simp [h4] at h
    (repeat refine PW.seq ?_); refine PW.rg rfl fun K hK => ?_; simp (maxSteps := 3000000) (disch := omega) only [go_sem, ↓reduceIte, reduceCtorEq, pappend, plen]; refine VCx.call (clr' _) rfl ?_; simp (maxSteps := 3000000) (disch := omega) only [go_sem, ↓reduceIte, reduceCtorEq, pappend, plen]; refine hK _ _ ?_; clear hK K
    have s4 := asc_skn (As.clr { a with op := -1 }) ha' false
    (repeat refine PW.seq ?_); refine PW.rg rfl fun K hK => ?_; simp (maxSteps := 3000000) (disch := omega) only [go_sem, ↓reduceIte, reduceCtorEq, pappend, plen, hYi, hYj, l3, s4]; refine hK _ _ ?_; clear hK K
    (repeat refine PW.seq ?_); refine PW.rg rfl fun K hK => ?_; simp (maxSteps := 3000000) (disch := omega) only [go_sem, ↓reduceIte, reduceCtorEq, pappend, plen, hY0, hYs, z1, z3, z5]; refine hK _ _ ?_; clear hK K
    refine PW.ret (hret (As.fin { a with op := -1 }) fm0 false _ _ rfl rfl rfl ?_ ?_ hz)
    · subst hr; rfl
    · subst hr; rfl
  · rw [if_neg h4] at hr
    (repeat refine PW.seq ?_); refine PW.cond (t := _) rfl (fun h => ?_) (fun h => ?_)
    · simp [h4] at h
    refine PW.skip ?_
    (repeat refine PW.seq ?_); refine PW.rg rfl fun K hK => ?_; simp (maxSteps := 3000000) (disch := omega) only [go_sem, ↓reduceIte, reduceCtorEq, pappend, plen, hY0, hYs, z1, z3, z5]; refine hK _ _ ?_; clear hK K
    refine PW.ret (hret { a with op := -1 } fm0 false _ _ rfl rfl rfl ?_ ?_ hz)
    · subst hr; rfl
    · subst hr; rfl
theorem item_inv (L : List It) (hL : ∀ x ∈ L, SqOk x.s) (a : As) (k : Nat) (hk : k < L.length) (ha : SqOk a.sq) (hop : OpR L a.op) : SqOk (a.item L k L[k]).1.sq ∧ OpR L (a.item L k L[k]).1.op ∧ ∀ f, (a.item L k L[k]).2 = some f → SqOk f.sq := by
  have h0 : OpR L (-1) := .inl rfl
  have hx := hL _ (List.getElem_mem hk)
  unfold As.item
  split
  · unfold As.pic
    split
    · exact ⟨ha, h0, fun f h => by cases h⟩
    · split
      · exact ⟨ha, h0, fun f h => by cases h; exact ha⟩
      · split
        · exact ⟨ha, h0, fun f h => by cases h; exact ha⟩
        · split
          · exact ⟨ha, .inr ⟨k, rfl, hk⟩, fun f h => by cases h⟩
          · exact ⟨ha, h0, fun f h => by cases h⟩
  · split
    · unfold As.seq
      split
      · exact ⟨ha, h0, fun f h => by cases h⟩
      · exact ⟨hx, h0, fun f h => by cases h⟩
    · split
      · unfold As.grp
        split
        · exact ⟨ha, h0, fun f h => by cases h⟩
        · split
          · exact ⟨ha, h0, fun f h => by cases h⟩
          · exact ⟨ha, h0, fun f h => by cases h⟩
      · split
        · exact ⟨ha, h0, fun f h => by cases h⟩
        · exact ⟨ha, h0, fun f h => by cases h⟩

end Go.Proofs.YtahomnplappbpaaGreatDoor.Sc
