/-
  The law PlanUsable.
-/
import Derived.Test.YtnjnikafhbholaaQe
import Derived.Test.YtnjnikafhbholaaAw
namespace Go.Proofs.Ytnjnikafhbholaa.Sc
set_option linter.all false
set_option linter.unusedVariables false
set_option linter.unusedSimpArgs false
open Pm Ty Go.RowKit

theorem pand_15 (n : Int) : ∃ v, pint .and .i64 n .i64 15 = some (.int .i64 v) := ⟨_, rfl⟩
theorem sqc_c (s : Sq) : (sqc s).all PV.cell = true := by
  simp only [sqc, List.all_cons, bs_cells]; rfl
theorem ixc_c (x : Ix) : (ixc x).all PV.cell = true := by
  simp only [ixc, List.all_cons, List.all_append, sqc_c]; rfl
theorem flc_c (f : Fl) : (flc f).all PV.cell = true := by
  simp only [flc, List.all_append, sqc_c]; rfl
theorem flc_len (f : Fl) (h : SqL f.s) : (flc f).length = 138 := by
  simp only [flc, List.length_append, sqc_len _ h, List.length_cons, List.length_nil]
theorem flc_sc (n : Nat) (f : Fl) (he : ∀ e ∈ f.ex, ExOk e) : ∀ x ∈ flc f, Scoped n x := fun x hx => by
  simp only [flc, List.mem_append, List.mem_cons, List.not_mem_nil, or_false] at hx
  rcases hx with hx | rfl | rfl | rfl
  · exact sqc_sc _ _ _ hx
  · exact .bool _
  · exact sl_scoped (exl_sc _ _ he)
  · exact sl_scoped (ixl_sc _ _)
/-- What the laws need to know of a film. -/
structure FlOk (f : Fl) : Prop where
  s : SqL f.s
  ex : ∀ e ∈ f.ex, ExOk e
  len : f.ex.length ≤ 1000
  me : f.me.length = 3
  ix : ∀ x ∈ f.me, SqL x.sq ∧ x.en.length ≤ 100
theorem ixs_en (L : List Int) (s : Sq) (a : Nat) : ∀ m, ∀ x ∈ (ixs L s a m).1, x.en.length ≤ 100
  | 0, x, hx => by simp [ixs] at hx
  | m + 1, x, hx => by
    simp only [ixs, List.mem_append, List.mem_singleton] at hx
    rcases hx with hx | rfl
    · exact ixs_en L s a m x hx
    · simp only [ix1, enL_len]
      have := ixK_lt L (ixs L s a m).2
      omega
theorem flm_ok (L : List Int) : FlOk (flm L) := by
  have h := segs_ok L ((flX L).2 + 1) (flK L)
  have hk : flK L ≤ 5 := by have := tn_range L (flX L).2 6 (by omega); unfold flK; omega
  exact ⟨hdS_L _ _, h.1, by have := h.2.2; simp only [flm]; omega, ixs_len _ _ _ 3, fun x hx => ⟨ixs_L L (flS L) 2 (hdS_L _ _) 3 x hx, ixs_en L (flS L) 2 3 x hx⟩⟩
theorem fm_at' {α : Type} (en : α → List PV) (m : Nat) (d : α) : ∀ (l : List α) (k : Nat), (∀ x ∈ l, (en x).length = m) → k < l.length → ((l.flatMap en).drop (k * m)).take m = en (l.getD k d)
  | [], k, h, hk => by simp at hk
  | a :: r, 0, h, _ => by
    have h1 := h a (by simp)
    rw [List.flatMap_cons, Nat.zero_mul, List.drop_zero, List.take_append_of_le_length (by rw [h1]; exact Nat.le_refl _), List.take_of_length_le (by rw [h1]; exact Nat.le_refl _)]; rfl
  | a :: r, k + 1, h, hk => by
    have h1 := h a (by simp)
    rw [List.flatMap_cons, show (k + 1) * m = (en a).length + k * m by rw [h1, Nat.succ_mul]; omega, ← List.drop_drop, List.drop_left, fm_at' en m d r k (fun x hx => h x (by simp [hx])) (by simpa using hk)]
    rfl
theorem getD_mem {α : Type} (d : α) : ∀ (l : List α) (k : Nat), k < l.length → l.getD k d ∈ l
  | [], k, h => by simp at h
  | a :: r, 0, _ => by simp
  | a :: r, k + 1, h => by
    have := getD_mem d r k (by simpa using h)
    simp only [List.getD_cons_succ, List.mem_cons]
    exact .inr this

theorem hscU {H K : Heap} (n : Nat) (hK : ∀ b ∈ K, ∀ x ∈ b.cells, Scoped (H.length + K.length) x) (h : HSc H) : HSc (H ++ K) := fun id k hk x hx => by
  rw [List.length_append]
  rw [List.getElem?_append] at hk
  split at hk
  · exact (h id k hk x hx).mono (by omega)
  · exact hK k (List.mem_of_getElem? hk) x hx
def sq0 : Sq := ⟨0, 0, 0, 0, false, 0, 0, [], []⟩
def ix0 : Ix := ⟨[], sq0, [], false⟩

set_option maxRecDepth 100000 in
set_option maxHeartbeats 4000000 in
theorem law_usable (a b : Sq) (x : Ix) (L : List Int) (f top : Bool) (n : Int) (H : Heap) (ha : SqL a) (hb : SqL b) (hx : SqL x.sq) (hn : x.en.length ≤ 9223372036854775807) :
    CallOk Try.prog 5 [.agg (sqc a), .agg (sqc b), .agg (ixc x), .slice (is L) L.length f, .bool top, .int .i64 n] H (.bool true) H := by
  have hm := made_ok L f
  have hf := flm_ok L
  generalize flm L = fl at *
  have la := sqc_len a ha
  have lb := sqc_len b hb
  have lx := ixc_len x hx
  have lf := flc_len fl hf.s
  have ca := sqc_c a
  have cb := sqc_c b
  have cx := ixc_c x
  have cf := flc_c fl
  have ta : (sqc a).take 135 = sqc a := List.take_of_length_le (by omega)
  have tb' : (sqc b).take 135 = sqc b := List.take_of_length_le (by omega)
  have tx : (ixc x).take 137 = ixc x := List.take_of_length_le (by omega)
  have tf : (flc fl).take 138 = flc fl := List.take_of_length_le (by omega)
  have ls := sqc_len fl.s hf.s
  have cs := sqc_c fl.s
  have f0 : (flc fl).take 135 = sqc fl.s := by
    unfold flc
    rw [← ls]; exact List.take_left
  have f3 : (flc fl)[137]? = some (.slice (fl.me.flatMap ixc) 3 false) := by
    unfold flc
    rw [List.getElem?_append_right (by omega), ls, hf.me]
    rfl
  have hME : ∀ y ∈ x :: fl.me, SqL y.sq ∧ y.en.length ≤ 9223372036854775807 := fun y hy => by
    rcases List.mem_cons.1 hy with rfl | hy
    · exact ⟨hx, hn⟩
    · have := hf.ix y hy
      exact ⟨this.1, by omega⟩
  have hcat : ixc x ++ fl.me.flatMap ixc = (x :: fl.me).flatMap ixc := by rw [List.flatMap_cons]
  have hlM := ixl_len fl.me (fun y hy => (hf.ix y hy).1)
  have hlA := ixl_len (x :: fl.me) (fun y hy => (hME y hy).1)
  have hat := fun k => fm_at' ixc 137 ix0 (x :: fl.me) k (fun y hy => ixc_len y (hME y hy).1)
  have hl4 : (x :: fl.me).length = 4 := by rw [List.length_cons, hf.me]
  have hgD := getD_mem ix0 (x :: fl.me)
  rw [hf.me] at hlM
  rw [hl4] at hlA hat hgD
  have hMsc := ixl_sc
  have tkA : ∀ r, List.take 135 (sqc a ++ r) = sqc a := fun r => by rw [← la]; exact List.take_left
  have drA : ∀ r : List PV, List.drop (135 + 135) (sqc a ++ r) = List.drop 135 r := fun r => by rw [← List.drop_drop]; congr 1; rw [← la]; exact List.drop_left
  obtain ⟨v, hv⟩ := pand_15 n
  refine CallOk.body (F0 := [(0, .agg (sqc a)), (1, .agg (sqc b)), (2, .agg (ixc x)), (3, .slice (is L) L.length f), (4, .bool top), (5, .int .i64 n)]) Try.func5 rfl Try.ntmps5 Try.results5 rfl (by kernel_rfl) rfl ?_
  (repeat refine PW.seq ?_); refine PW.rg rfl fun K hK => ?_; simp (maxSteps := 3000000) (disch := omega) only [go_sem, ↓reduceIte, reduceCtorEq, pappend, plen, ca, cb, cx]; refine hK _ _ ?_; clear hK K
  (repeat refine PW.seq ?_); refine PW.rg rfl fun K hK => ?_; simp (maxSteps := 3000000) (disch := omega) only [go_sem, ↓reduceIte, reduceCtorEq, pappend, plen, lf, cf]; refine VCx.call (hm _) rfl ?_; simp (maxSteps := 3000000) (disch := omega) only [go_sem, ↓reduceIte, reduceCtorEq, pappend, plen, lf, cf]; refine hK _ _ ?_; clear hK K
  (repeat refine PW.seq ?_); refine PW.rg rfl fun K hK => ?_; simp (maxSteps := 3000000) (disch := omega) only [go_sem, ↓reduceIte, reduceCtorEq, pappend, plen, lx, tx, cx, f3, lf, hlM]; refine hK _ _ ?_; clear hK K
  (repeat refine PW.seq ?_); refine PW.block (PW.loop ?_)
  suffices hloop : ∀ j : Nat, j ≤ 4 → PL Try.prog _ _ [(4, .bool top), (5, .int .i64 n), (6, .ptr H.length 0 0), (7, .ptr (H.length + 1) 0 0), (13, .ptr (H.length + 3) 0 0), (26, .msl (H.length + 4) 548 0 4 137 true), (27, .int .i64 4), (28, .int .i64 (j : Int))] (H ++ [⟨39, 0, sqc a⟩, ⟨39, 0, sqc b⟩, ⟨45, 0, ixc x⟩, ⟨50, 0, flc fl⟩, ⟨45, 548, (x :: fl.me).flatMap ixc⟩]) _ by
    refine PL.at [4, 5, 6, 7, 13, 26, 27, 28] (hloop 0 (by omega)) ?_ ?_
    · rw [hcat, hlA]; rfl
    · rw [hcat, hlA]
  intro j hj
  induction hd : 4 - j using Nat.strongRecOn generalizing j with
  | _ d ih =>
    refine PL.round ?_; (repeat refine PW.seq ?_); refine PW.rg rfl fun K hK => ?_; simp (maxSteps := 3000000) (disch := omega) only [go_sem, ↓reduceIte, reduceCtorEq, pappend, plen]; refine hK _ _ ?_; clear hK K
    (repeat refine PW.seq ?_); refine PW.cond (t := _) rfl (fun h => ?_) (fun h => ?_)
    rotate_left
    · have h4 : j = 4 := by have := of_decide_eq_false h; omega
      subst h4
      refine PW.exit ?_
      obtain ⟨a1, a2, a3, a4, a5, a6, a7, p, q⟩ := a
      obtain ⟨b1, b2, b3, b4, b5, b6, b7, p', q'⟩ := b
      have l1 : (bs p ++ bs q).length = 128 := by rw [List.length_append, length_bs, length_bs, ha.ia, ha.ie]
      have l2 : (bs p' ++ bs q').length = 128 := by rw [List.length_append, length_bs, length_bs, hb.ia, hb.ie]
      have t1 := sq_all p q ha.ia ha.ie
      have t2 := sq_all p' q' hb.ia hb.ie
      have ao := fun K => agr_ok ⟨a1, a2, a3, a4, a5, a6, a7, p, q⟩ ⟨b1, b2, b3, b4, b5, a6, IntKind.i64.wrap (a7 + 1), p', q'⟩ K ha ⟨hb.ia, hb.ie⟩
      have ar := fun K => agr_ref ⟨a1, a2, a3, a4, a5, a6, a7, p, q⟩ ⟨b1, b2, b3, b4, b5, a6, IntKind.i64.wrap (a7 + 1), p', q'⟩ K ha ⟨hb.ia, hb.ie⟩
      simp only [sqc] at ao ar ⊢
      generalize bs p ++ bs q = tl at *
      generalize bs p' ++ bs q' = tl' at *
      (repeat refine PW.seq ?_); refine PW.drawi [H.length + 1] [(7, [0]), (80, [0]), (81, [0])] [] [] mix (by kernel_rfl) (by simp <;> omega) fun K hK => ?_
      simp (maxSteps := 3000000) (disch := omega) only [go_sem, ↓reduceIte, reduceCtorEq, pappend, plen, l1, l2]
      refine hK _ _ ?_; clear hK K
      (repeat refine PW.seq ?_); refine PW.draw mix (by kernel_rfl) fun K hK => ?_; simp (maxSteps := 3000000) (disch := omega) only [go_sem, ↓reduceIte, reduceCtorEq, pappend, plen, l1, l2, t1, t2]
      (repeat' (first | ((first | refine VO_cond (fun h => ?_) (fun h => ?_) | refine VOd_cond (fun h => ?_) (fun h => ?_) | refine VOg_cond (fun h => ?_) (fun h => ?_) | refine VOh_cond (fun h => ?_) (fun h => ?_) | refine VOi_cond (fun h => ?_) (fun h => ?_) | refine And.intro (fun h => ?_) (fun h => ?_)) <;> (try simp only [Bool.not_eq_true', Bool.not_eq_false', decide_eq_true_eq, decide_eq_false_iff_not] at h) <;> simp (maxSteps := 3000000) (disch := omega) only [go_sem, ↓reduceIte, reduceCtorEq, pappend, plen, l1, l2, t1, t2, h]) | (refine VCx.call (ao _) rfl ?_; simp (maxSteps := 3000000) (disch := omega) only [go_sem, ↓reduceIte, reduceCtorEq, pappend, plen, l1, l2, t1, t2]) | (refine VCx.call (ar _) rfl ?_; simp (maxSteps := 3000000) (disch := omega) only [go_sem, ↓reduceIte, reduceCtorEq, pappend, plen, l1, l2, t1, t2]) | (refine VCy.call (ao _) rfl ?_; simp (maxSteps := 3000000) (disch := omega) only [go_sem, ↓reduceIte, reduceCtorEq, pappend, plen, l1, l2, t1, t2]) | (refine VCy.call (ar _) rfl ?_; simp (maxSteps := 3000000) (disch := omega) only [go_sem, ↓reduceIte, reduceCtorEq, pappend, plen, l1, l2, t1, t2]) | (refine VCz.call (fun _ => ao _) rfl ?_; simp (maxSteps := 3000000) (disch := omega) only [go_sem, ↓reduceIte, reduceCtorEq, pappend, plen, l1, l2, t1, t2]) | (refine VCz.call (fun _ => ar _) rfl ?_; simp (maxSteps := 3000000) (disch := omega) only [go_sem, ↓reduceIte, reduceCtorEq, pappend, plen, l1, l2, t1, t2]) | (refine VCk.call (fun _ _ => ao _) rfl ?_; simp (maxSteps := 3000000) (disch := omega) only [go_sem, ↓reduceIte, reduceCtorEq, pappend, plen, l1, l2, t1, t2]) | (refine VCk.call (fun _ _ => ar _) rfl ?_; simp (maxSteps := 3000000) (disch := omega) only [go_sem, ↓reduceIte, reduceCtorEq, pappend, plen, l1, l2, t1, t2])))
      refine VCy.callP awake31 rfl ?_; simp (maxSteps := 3000000) (disch := omega) only [go_sem, ↓reduceIte, reduceCtorEq, pappend, plen]
      refine hK _ _ ?_; clear hK K
      (refine PW.ret ⟨_, rfl, ?_⟩; first | refine .inl ⟨?_, rfl⟩ | refine Fin.base (.id' ?_ (.bool _)) | refine Fin.base (.id' ?_ (.int _ _)))
      rfl
    · have h4 : j < 4 := by have := of_decide_eq_true h; omega
      have hat' := hat j h4
      have hy := hME _ (hgD j h4)
      generalize (x :: fl.me).getD j ix0 = y at *
      have ly := ixc_len y hy.1
      have cy := ixc_c y
      have ty' : (ixc y).take 137 = ixc y := List.take_of_length_le (by omega)
      have sy : ((ixc y).drop 1).take 135 = sqc y.sq := by
        rw [show (ixc y).drop 1 = sqc y.sq ++ [.slice (y.en.flatMap enc) y.en.length y.g] from rfl, ← sqc_len y.sq hy.1]
        exact List.take_left
      refine PW.skip ?_; (repeat refine PW.seq ?_); refine PW.block ?_
      (repeat refine PW.seq ?_); refine PW.rg rfl fun K hK => ?_; simp (maxSteps := 3000000) (disch := omega) only [go_sem, ↓reduceIte, reduceCtorEq, pappend, plen, hat', hlA, ly, cy]; refine hK _ _ ?_; clear hK K
      (repeat refine PW.seq ?_); refine PW.rg rfl fun K hK => ?_; simp (maxSteps := 3000000) (disch := omega) only [go_sem, ↓reduceIte, reduceCtorEq, pappend, plen, la, ta, ca, f0, lf, ls, cs, tkA, drA, List.length_append, List.all_append]; refine hK _ _ ?_; clear hK K
      (repeat refine PW.seq ?_); refine PW.block (PW.loop ?_)
      suffices hl1 : ∀ j1 : Nat, j1 ≤ 2 → PL Try.prog _ _ [(4, .bool top), (5, .int .i64 n), (6, .ptr H.length 0 0), (7, .ptr (H.length + 1) 0 0), (13, .ptr (H.length + 3) 0 0), (26, .msl (H.length + 4) 548 0 4 137 true), (27, .int .i64 4), (28, .int .i64 (j : Int)), (15, .ptr (H.length + 5) 0 0), (35, .slice (sqc a ++ sqc fl.s) 2 true), (36, .int .i64 2), (37, .int .i64 (j1 : Int))] (H ++ [⟨39, 0, sqc a⟩, ⟨39, 0, sqc b⟩, ⟨45, 0, ixc x⟩, ⟨50, 0, flc fl⟩, ⟨45, 548, (x :: fl.me).flatMap ixc⟩, ⟨45, 0, ixc y⟩]) _ by
        refine PL.at [4, 5, 6, 7, 13, 26, 27, 28, 15, 35, 36, 37] (hl1 0 (by omega)) ?_ ?_
        · rfl
        · rfl
      intro j1 hj1
      induction hd1 : 2 - j1 using Nat.strongRecOn generalizing j1 with
      | _ d1 ih1 =>
        refine PL.round ?_; (repeat refine PW.seq ?_); refine PW.rg rfl fun K hK => ?_; simp (maxSteps := 3000000) (disch := omega) only [go_sem, ↓reduceIte, reduceCtorEq, pappend, plen]; refine hK _ _ ?_; clear hK K
        (repeat refine PW.seq ?_); refine PW.cond (t := _) rfl (fun h => ?_) (fun h => ?_)
        rotate_left
        · have h5 : j1 = 2 := by have := of_decide_eq_false h; omega
          subst h5
          refine PW.exit ?_
          (repeat refine PW.seq ?_); refine PW.rg rfl fun K hK => ?_; simp (maxSteps := 3000000) (disch := omega) only [go_sem, ↓reduceIte, reduceCtorEq, pappend, plen]; refine hK _ _ ?_; clear hK K
          refine PL.view (Vs.trim (F1 := [(4, .bool top), (5, .int .i64 n), (6, .ptr H.length 0 0), (7, .ptr (H.length + 1) 0 0), (13, .ptr (H.length + 3) 0 0), (26, .msl (H.length + 4) 548 0 4 137 true), (27, .int .i64 4), (28, .int .i64 ((j + 1 : Nat) : Int))]) (H1 := H ++ [⟨39, 0, sqc a⟩, ⟨39, 0, sqc b⟩, ⟨45, 0, ixc x⟩, ⟨50, 0, flc fl⟩, ⟨45, 548, (x :: fl.me).flatMap ixc⟩]) (hscU 5 ?_) (by simp) (List.append_assoc _ [_, _, _, _, _] [_]).symm ?_) (ih (4 - (j + 1)) (by omega) (j + 1) (by omega) rfl)
          · intro q hq t ht
            simp only [List.mem_cons, List.not_mem_nil, or_false] at hq
            rcases hq with rfl | rfl | rfl | rfl | rfl
            · exact sqc_sc _ _ _ ht
            · exact sqc_sc _ _ _ ht
            · exact ixc_sc _ _ _ ht
            · exact flc_sc _ _ hf.ex _ ht
            · exact ixl_sc _ _ _ ht
          · rw [List.length_append]
            simp only [List.length_cons, List.length_nil]
            exact ⟨.id (.bool _), .id (.int _ _), .id (.ptr (by omega)), .id (.ptr (by omega)), .id (.ptr (by omega)), .id (.msl (by omega)), .id (.int _ _), .id (.int _ _), trivial⟩
        · have h5 : j1 < 2 := by have := of_decide_eq_true h; omega
          obtain ⟨z, hz, hz1⟩ : ∃ z, ((sqc a ++ sqc fl.s).drop (j1 * 135)).take 135 = sqc z ∧ SqL z := by
            have h6 : j1 = 0 ∨ j1 = 1 := by omega
            rcases h6 with rfl | rfl
            · refine ⟨a, ?_, ha⟩
              rw [Nat.zero_mul, List.drop_zero, ← la]; exact List.take_left
            · refine ⟨fl.s, ?_, hf.s⟩
              rw [Nat.one_mul, ← la, List.drop_left, la, ← ls]; exact List.take_length
          have lz := sqc_len z hz1
          have cz := sqc_c z
          have tz : (sqc z).take 135 = sqc z := List.take_of_length_le (by omega)
          have uo := fun K (k : Int) => usb_ok z top y k K hz1 hy.1 hy.2
          have ur := fun K (k : Int) => usb_ref z top y k K hz1 hy.1 hy.2
          have ao := fun K => agr_ok z y.sq K hz1 hy.1
          have ar := fun K => agr_ref z y.sq K hz1 hy.1
          refine PW.skip ?_; (repeat refine PW.seq ?_); refine PW.block ?_
          (repeat refine PW.seq ?_); refine PW.rg rfl fun K hK => ?_; simp (maxSteps := 3000000) (disch := omega) only [go_sem, ↓reduceIte, reduceCtorEq, pappend, plen, hz, lz, cz, tz, la, ls, List.length_append]; refine hK _ _ ?_; clear hK K
          (repeat refine PW.seq ?_); refine PW.rg rfl fun K hK => ?_; simp (maxSteps := 3000000) (disch := omega) only [go_sem, ↓reduceIte, reduceCtorEq, pappend, plen, hv]; refine hK _ _ ?_; clear hK K
          (repeat refine PW.seq ?_); refine PW.block (PW.loop ?_)
          suffices hl2 : ∀ j2 : Nat, j2 ≤ 2 → PL Try.prog _ _ [(4, .bool top), (5, .int .i64 n), (6, .ptr H.length 0 0), (7, .ptr (H.length + 1) 0 0), (13, .ptr (H.length + 3) 0 0), (26, .msl (H.length + 4) 548 0 4 137 true), (27, .int .i64 4), (28, .int .i64 (j : Int)), (15, .ptr (H.length + 5) 0 0), (35, .slice (sqc a ++ sqc fl.s) 2 true), (36, .int .i64 2), (37, .int .i64 (j1 : Int)), (17, .ptr (H.length + 6) 0 0), (44, .slice [.int .i64 n, .int .i64 v] 2 true), (45, .int .i64 2), (46, .int .i64 (j2 : Int))] (H ++ [⟨39, 0, sqc a⟩, ⟨39, 0, sqc b⟩, ⟨45, 0, ixc x⟩, ⟨50, 0, flc fl⟩, ⟨45, 548, (x :: fl.me).flatMap ixc⟩, ⟨45, 0, ixc y⟩, ⟨39, 0, sqc z⟩]) _ by
            refine PL.at [4, 5, 6, 7, 13, 26, 27, 28, 15, 35, 36, 37, 17, 44, 45, 46] (hl2 0 (by omega)) ?_ ?_
            · rfl
            · rfl
          intro j2 hj2
          induction hd2 : 2 - j2 using Nat.strongRecOn generalizing j2 with
          | _ d2 ih2 =>
            refine PL.round ?_; (repeat refine PW.seq ?_); refine PW.rg rfl fun K hK => ?_; simp (maxSteps := 3000000) (disch := omega) only [go_sem, ↓reduceIte, reduceCtorEq, pappend, plen]; refine hK _ _ ?_; clear hK K
            (repeat refine PW.seq ?_); refine PW.cond (t := _) rfl (fun h => ?_) (fun h => ?_)
            rotate_left
            · have h6 : j2 = 2 := by have := of_decide_eq_false h; omega
              subst h6
              refine PW.exit ?_
              (repeat refine PW.seq ?_); refine PW.rg rfl fun K hK => ?_; simp (maxSteps := 3000000) (disch := omega) only [go_sem, ↓reduceIte, reduceCtorEq, pappend, plen]; refine hK _ _ ?_; clear hK K
              refine PL.view (Vs.trim (F1 := [(4, .bool top), (5, .int .i64 n), (6, .ptr H.length 0 0), (7, .ptr (H.length + 1) 0 0), (13, .ptr (H.length + 3) 0 0), (26, .msl (H.length + 4) 548 0 4 137 true), (27, .int .i64 4), (28, .int .i64 (j : Int)), (15, .ptr (H.length + 5) 0 0), (35, .slice (sqc a ++ sqc fl.s) 2 true), (36, .int .i64 2), (37, .int .i64 ((j1 + 1 : Nat) : Int))]) (H1 := H ++ [⟨39, 0, sqc a⟩, ⟨39, 0, sqc b⟩, ⟨45, 0, ixc x⟩, ⟨50, 0, flc fl⟩, ⟨45, 548, (x :: fl.me).flatMap ixc⟩, ⟨45, 0, ixc y⟩]) (hscU 6 ?_) (by simp) (List.append_assoc _ [_, _, _, _, _, _] [_]).symm ?_) (ih1 (2 - (j1 + 1)) (by omega) (j1 + 1) (by omega) rfl)
              · intro q hq t ht
                simp only [List.mem_cons, List.not_mem_nil, or_false] at hq
                rcases hq with rfl | rfl | rfl | rfl | rfl | rfl
                · exact sqc_sc _ _ _ ht
                · exact sqc_sc _ _ _ ht
                · exact ixc_sc _ _ _ ht
                · exact flc_sc _ _ hf.ex _ ht
                · exact ixl_sc _ _ _ ht
                · exact ixc_sc _ _ _ ht
              · rw [List.length_append]
                simp only [List.length_cons, List.length_nil]
                exact ⟨.id (.bool _), .id (.int _ _), .id (.ptr (by omega)), .id (.ptr (by omega)), .id (.ptr (by omega)), .id (.msl (by omega)), .id (.int _ _), .id (.int _ _), .id (.ptr (by omega)), .id (sl_scoped fun t ht => (by rcases List.mem_append.1 ht with ht | ht <;> exact sqc_sc _ _ _ ht)), .id (.int _ _), .id (.int _ _), trivial⟩
            · have h6 : j2 < 2 := by have := of_decide_eq_true h; omega
              obtain ⟨k, hk⟩ : ∃ k : Int, ([.int .i64 n, .int .i64 v] : List PV)[j2]? = some (.int .i64 k) := by
                have h7 : j2 = 0 ∨ j2 = 1 := by omega
                rcases h7 with rfl | rfl
                · exact ⟨n, rfl⟩
                · exact ⟨v, rfl⟩
              refine PW.skip ?_; (repeat refine PW.seq ?_); refine PW.block ?_
              (repeat refine PW.seq ?_); refine PW.rg rfl fun K hK => ?_; simp (maxSteps := 3000000) (disch := omega) only [go_sem, ↓reduceIte, reduceCtorEq, pappend, plen, hk]; refine hK _ _ ?_; clear hK K
              (repeat refine PW.seq ?_); refine PW.draw mix (by kernel_rfl) fun K hK => ?_; simp (maxSteps := 3000000) (disch := omega) only [go_sem, ↓reduceIte, reduceCtorEq, pappend, plen, lz, tz, ly, ty', sy]
              (repeat' (first | ((first | refine VO_cond (fun h => ?_) (fun h => ?_) | refine VOd_cond (fun h => ?_) (fun h => ?_) | refine VOg_cond (fun h => ?_) (fun h => ?_) | refine VOh_cond (fun h => ?_) (fun h => ?_) | refine VOi_cond (fun h => ?_) (fun h => ?_) | refine And.intro (fun h => ?_) (fun h => ?_)) <;> (try simp only [Bool.not_eq_true', Bool.not_eq_false', decide_eq_true_eq, decide_eq_false_iff_not] at h) <;> simp (maxSteps := 3000000) (disch := omega) only [go_sem, ↓reduceIte, reduceCtorEq, pappend, plen, lz, tz, ly, ty', sy, h]) | (refine VCx.call (uo _ _) rfl ?_; simp (maxSteps := 3000000) (disch := omega) only [go_sem, ↓reduceIte, reduceCtorEq, pappend, plen, lz, tz, ly, ty', sy]) | (refine VCx.call (ur _ _) rfl ?_; simp (maxSteps := 3000000) (disch := omega) only [go_sem, ↓reduceIte, reduceCtorEq, pappend, plen, lz, tz, ly, ty', sy]) | (refine VCx.call (ao _) rfl ?_; simp (maxSteps := 3000000) (disch := omega) only [go_sem, ↓reduceIte, reduceCtorEq, pappend, plen, lz, tz, ly, ty', sy]) | (refine VCx.call (ar _) rfl ?_; simp (maxSteps := 3000000) (disch := omega) only [go_sem, ↓reduceIte, reduceCtorEq, pappend, plen, lz, tz, ly, ty', sy]) | (refine VCy.call (uo _ _) rfl ?_; simp (maxSteps := 3000000) (disch := omega) only [go_sem, ↓reduceIte, reduceCtorEq, pappend, plen, lz, tz, ly, ty', sy]) | (refine VCy.call (ur _ _) rfl ?_; simp (maxSteps := 3000000) (disch := omega) only [go_sem, ↓reduceIte, reduceCtorEq, pappend, plen, lz, tz, ly, ty', sy]) | (refine VCy.call (ao _) rfl ?_; simp (maxSteps := 3000000) (disch := omega) only [go_sem, ↓reduceIte, reduceCtorEq, pappend, plen, lz, tz, ly, ty', sy]) | (refine VCy.call (ar _) rfl ?_; simp (maxSteps := 3000000) (disch := omega) only [go_sem, ↓reduceIte, reduceCtorEq, pappend, plen, lz, tz, ly, ty', sy]) | (refine VCz.call (fun _ => uo _ _) rfl ?_; simp (maxSteps := 3000000) (disch := omega) only [go_sem, ↓reduceIte, reduceCtorEq, pappend, plen, lz, tz, ly, ty', sy]) | (refine VCz.call (fun _ => ur _ _) rfl ?_; simp (maxSteps := 3000000) (disch := omega) only [go_sem, ↓reduceIte, reduceCtorEq, pappend, plen, lz, tz, ly, ty', sy]) | (refine VCz.call (fun _ => ao _) rfl ?_; simp (maxSteps := 3000000) (disch := omega) only [go_sem, ↓reduceIte, reduceCtorEq, pappend, plen, lz, tz, ly, ty', sy]) | (refine VCz.call (fun _ => ar _) rfl ?_; simp (maxSteps := 3000000) (disch := omega) only [go_sem, ↓reduceIte, reduceCtorEq, pappend, plen, lz, tz, ly, ty', sy]) | (refine VCk.call (fun _ _ => uo _ _) rfl ?_; simp (maxSteps := 3000000) (disch := omega) only [go_sem, ↓reduceIte, reduceCtorEq, pappend, plen, lz, tz, ly, ty', sy]) | (refine VCk.call (fun _ _ => ur _ _) rfl ?_; simp (maxSteps := 3000000) (disch := omega) only [go_sem, ↓reduceIte, reduceCtorEq, pappend, plen, lz, tz, ly, ty', sy]) | (refine VCk.call (fun _ _ => ao _) rfl ?_; simp (maxSteps := 3000000) (disch := omega) only [go_sem, ↓reduceIte, reduceCtorEq, pappend, plen, lz, tz, ly, ty', sy]) | (refine VCk.call (fun _ _ => ar _) rfl ?_; simp (maxSteps := 3000000) (disch := omega) only [go_sem, ↓reduceIte, reduceCtorEq, pappend, plen, lz, tz, ly, ty', sy])))
              refine hK _ _ ?_; clear hK K
              (repeat refine PW.seq ?_); refine PW.cond (t := _) rfl (fun h => ?_) (fun h => ?_)
              · cases h
              refine PW.skip ?_
              (repeat refine PW.seq ?_); refine PW.rg rfl fun K hK => ?_; simp (maxSteps := 3000000) (disch := omega) only [go_sem, ↓reduceIte, reduceCtorEq, pappend, plen]; refine hK _ _ ?_; clear hK K
              exact PL.at [4, 5, 6, 7, 13, 26, 27, 28, 15, 35, 36, 37, 17, 44, 45, 46] (ih2 (2 - (j2 + 1)) (by omega) (j2 + 1) (by omega) rfl) rfl rfl

end Go.Proofs.Ytnjnikafhbholaa.Sc
