/-
  The law PlanNothingMore: contracts of Candidates, typ and reference.
-/
import Derived.Test.YtnjnikafhbholaaQr
import Derived.Test.YtnjnikafhbholaaAw
namespace Go.Proofs.Ytnjnikafhbholaa.Sc
set_option linter.all false
set_option linter.unusedVariables false
set_option linter.unusedSimpArgs false
open Pm Ty Go.RowKit
open Pl (Pa Sh PF PaOk arr sh kd adj st en pts cpd jn ext shm shn tys rfB rfF rfFF)

theorem ixs_nm (L : List Int) (s : Sq) (a : Nat) : ∀ m, ∀ x ∈ (ixs L s a m).1, x.nm ≠ []
  | 0, x, hx => by simp [ixs] at hx
  | m + 1, x, hx => by
    simp only [ixs, List.mem_append, List.mem_singleton] at hx
    rcases hx with hx | rfl
    · exact ixs_nm L s a m x hx
    · simp [ix1, nm]
theorem flm_nm (L : List Int) : ∀ x ∈ (flm L).me, x.nm ≠ [] := ixs_nm L (flS L) 2 3
theorem first_J' {l : List (Option Sh)} (h3 : Pl.T3 l) {i : Nat} {m : List UInt8} {n k : Int} (hx : sh l (i + 0) = some ⟨m, n, k⟩) (hc : cpd l i = true) (hj : jn l i = false) : k = 1 := Pl.first_I h3 hx hc hj
theorem last_nc' {l : List (Option Sh)} (h3 : Pl.T3 l) {i : Nat} {m : List UInt8} {n k : Int} (hx : sh l i = some ⟨m, n, k⟩) (hc : cpd l i = true) (hj : jn l (i + 1) = false) : k ≠ 3 := Pl.last_nb h3 hx hc hj
/-- What is known of a film's frames. -/
structure FlS (f : Fl) (l : List (Option Sh)) : Prop where
  len : l.length = f.ex.length
  nb : NB l
  t3 : Pl.T3 l
  nm : ∀ i x, sh l i = some x → x.m ≠ []
  sh : ∀ i x, sh l i = some x → i < f.ex.length ∧ exAt f.ex i = ⟨1, x.m, x.n, 0, 0, 0, [], [], 0, true⟩ ∧ ∃ k, fnd f.me x.m f.me.length = some k ∧ k < f.me.length ∧ usb f.s f.top (ixAt f.me k) x.n = true ∧ x.k = (enAt (ixAt f.me k).en x.n.toNat).ty
theorem flS_ok (f : Fl) (hf : FlM f) (hn : ∀ x ∈ f.me, x.nm ≠ []) : FlS f (f.ex.map (shOf f.s f.top f.me)) := by
  have key : ∀ i x, sh (f.ex.map (shOf f.s f.top f.me)) i = some x → i < f.ex.length ∧ exAt f.ex i = ⟨1, x.m, x.n, 0, 0, 0, [], [], 0, true⟩ ∧ ∃ k, fnd f.me x.m f.me.length = some k ∧ k < f.me.length ∧ usb f.s f.top (ixAt f.me k) x.n = true ∧ x.k = (enAt (ixAt f.me k).en x.n.toNat).ty := fun i x hx => by
    obtain ⟨h1, h2⟩ := sh_ex hx
    obtain ⟨k, a1, a2, a3, rfl⟩ := shOf_ok h2
    refine ⟨h1, ?_, k, a1, (fnd_lt a1).1, a2, rfl⟩
    have he := hf.ex (exAt f.ex i) (getD_mem ex0 f.ex i h1)
    obtain ⟨b1, b2, b3, b4, b5, b6, b7, _⟩ := he.src a3
    generalize exAt f.ex i = e at *
    obtain ⟨op, m, fr, x3, x4, x5, x6, xs, n, g⟩ := e
    dsimp only at *
    rw [a3, b1, b2, b3, b4, b5, b6, b7]
  refine ⟨by rw [List.length_map], NB_map _ _ _ _ (fun k hk => by have := (hf.ix _ (getD_mem ix0 f.me k hk)).2; unfold ixAt; omega), fun i x hx => ?_, fun i x hx => ?_, key⟩
  · obtain ⟨_, _, k, _, k1, k2, k3⟩ := key i x hx
    have hmem : enAt (ixAt f.me k).en x.n.toNat ∈ (ixAt f.me k).en := getD_mem (⟨0, false, 0, false, false⟩ : En) (ixAt f.me k).en x.n.toNat (by have := usb_rng k2; omega)
    have := hf.ty (ixAt f.me k) (getD_mem ix0 f.me k k1) _ hmem
    rw [k3]
    omega
  · obtain ⟨_, _, k, a1, k1, _, _⟩ := key i x hx
    rw [← (fnd_lt a1).2]
    exact hn _ (getD_mem ix0 f.me k k1)


theorem ex_at1 {E : List Ex} {i : Nat} (h : i < E.length) : (E.flatMap exc)[i * 8 + 1]? = some (.str (exAt E i).m) ∧ (E.flatMap exc)[i * 8 + 2]? = some (.int .i64 (exAt E i).fr) ∧ (E.flatMap exc)[i * 8]? = some (.int .i64 (exAt E i).op) := by
  have hea := fm_at exc 8 (fun _ => rfl) ex0 E i h
  change List.take 8 (List.drop (i * 8) (E.flatMap exc)) = exc (exAt E i) at hea
  have h0 := get_of_take (j := 0) hea (by omega)
  rw [Nat.add_zero] at h0
  exact ⟨get_of_take (j := 1) hea (by omega), get_of_take (j := 2) hea (by omega), h0⟩
theorem ix_136 {M : List Ix} (hM : ∀ x ∈ M, SqL x.sq) {q : Nat} (hq : q < M.length) : (M.flatMap ixc)[q * 137 + 136]? = some (.slice ((ixAt M q).en.flatMap enc) (ixAt M q).en.length (ixAt M q).g) := by
  have hxa := fm_at' ixc 137 ix0 M q (fun x hx => ixc_len x (hM x hx)) hq
  change List.take 137 (List.drop (q * 137) (M.flatMap ixc)) = ixc (ixAt M q) at hxa
  have hx := hM _ (getD_mem ix0 M q hq)
  change SqL (ixAt M q).sq at hx
  rw [get_of_take (j := 136) hxa (by omega)]
  unfold ixc
  rw [List.getElem?_cons_succ, List.getElem?_append_right (by rw [sqc_len _ hx]; omega), sqc_len _ hx]
  rfl
theorem en_0 (l : List En) (i : Nat) (h : i < l.length) : (l.flatMap enc)[i * 5]? = some (.int .i64 (enAt l i).ty) := by
  have := get_of_take (j := 0) (fm_at enc 5 (fun _ => rfl) ⟨0, false, 0, false, false⟩ l i h) (by omega)
  rw [Nat.add_zero] at this
  rw [this]
  rfl
structure FlC (f : Fl) : Prop where
  lf : (flc f).length = 138
  cf : (flc f).all PV.cell = true
  tf : (flc f).take 138 = flc f
  f0 : (flc f).take 135 = sqc f.s
  f1 : (flc f)[135]? = some (.bool f.top)
  f2 : (flc f)[136]? = some (.slice (f.ex.flatMap exc) f.ex.length false)
  f3 : (flc f)[137]? = some (.slice (f.me.flatMap ixc) f.me.length false)
theorem flC_ok (f : Fl) (h : SqL f.s) : FlC f := by
  have lf := flc_len f h
  have ls := sqc_len f.s h
  refine ⟨lf, flc_c f, List.take_of_length_le (by omega), ?_, ?_, ?_, ?_⟩
  · unfold flc
    rw [← ls]; exact List.take_left
  · unfold flc; rw [List.getElem?_append_right (by omega), ls]; rfl
  · unfold flc; rw [List.getElem?_append_right (by omega), ls]; rfl
  · unfold flc; rw [List.getElem?_append_right (by omega), ls]; rfl

theorem typ_ok (f : Fl) (hf : FlM f) (l : List (Option Sh)) (hs : FlS f l) (i : Nat) (x : Sh) (hx : sh l i = some x) (H : Heap) : CallOk Try.prog 43 [.agg (flc f), .int .i64 (i : Int)] H (.int .i64 x.k) H := by
  obtain ⟨lf, cf, tf, f0, f1, f2, f3⟩ := flC_ok f hf.s
  obtain ⟨h1, h2, q, h3, h4, h5, h6⟩ := hs.sh i x hx
  have hnb := hs.nb i x hx
  have hM : ∀ x ∈ f.me, SqL x.sq := fun x hx => (hf.ix x hx).1
  have fo := fun K => find_ok f.me false x.m K hM (by have := hf.me; omega)
  rw [h3] at fo
  change ∀ K, CallOk _ _ _ K (.int .i64 (q : Int)) K at fo
  obtain ⟨g1, g2, _⟩ := ex_at1 h1
  rw [h2] at g1 g2
  have x136 := ix_136 hM h4
  have hr := usb_rng h5
  have he := en_0 (ixAt f.me q).en x.n.toNat (by omega)
  rw [← h6] at he
  have hE5 := fm_len enc 5 (fun _ => rfl) (ixAt f.me q).en
  have hlM := ixl_len f.me hM
  have c1 := exl_len f.ex
  have hfn := hf.n
  have hfm := hf.me
  dsimp only at g1 g2
  refine CallOk.body (F0 := [(0, .agg (flc f)), (1, .int .i64 (i : Int))]) Try.func43 rfl Try.ntmps43 Try.results43 rfl (by kernel_rfl) rfl ?_
  (repeat refine PW.seq ?_); refine PW.rg rfl fun K hK => ?_; simp (maxSteps := 3000000) (disch := omega) only [go_sem, ↓reduceIte, reduceCtorEq, pappend, plen, cf]; refine hK _ _ ?_; clear hK K
  (repeat refine PW.seq ?_); refine PW.draw mix (by kernel_rfl) fun K hK => ?_; simp (maxSteps := 3000000) (disch := omega) only [go_sem, ↓reduceIte, reduceCtorEq, pappend, plen, lf, f2, f3, g1, g2, c1]
  (repeat' (first | ((first | refine VO_cond (fun h => ?_) (fun h => ?_) | refine VOd_cond (fun h => ?_) (fun h => ?_) | refine VOg_cond (fun h => ?_) (fun h => ?_) | refine VOh_cond (fun h => ?_) (fun h => ?_) | refine VOi_cond (fun h => ?_) (fun h => ?_) | refine And.intro (fun h => ?_) (fun h => ?_)) <;> (try simp only [Bool.not_eq_true', Bool.not_eq_false', decide_eq_true_eq, decide_eq_false_iff_not] at h) <;> simp (maxSteps := 3000000) (disch := omega) only [go_sem, ↓reduceIte, reduceCtorEq, pappend, plen, lf, f2, f3, g1, g2, c1, x136, he, hE5, hlM, h]) | (refine VCx.call (fo _) rfl ?_; simp (maxSteps := 3000000) (disch := omega) only [go_sem, ↓reduceIte, reduceCtorEq, pappend, plen, lf, f2, f3, g1, g2, c1, x136, he, hE5, hlM]) | (refine VCy.call (fo _) rfl ?_; simp (maxSteps := 3000000) (disch := omega) only [go_sem, ↓reduceIte, reduceCtorEq, pappend, plen, lf, f2, f3, g1, g2, c1, x136, he, hE5, hlM]) | (refine VCz.call (fun _ => fo _) rfl ?_; simp (maxSteps := 3000000) (disch := omega) only [go_sem, ↓reduceIte, reduceCtorEq, pappend, plen, lf, f2, f3, g1, g2, c1, x136, he, hE5, hlM]) | (refine VCk.call (fun _ _ => fo _) rfl ?_; simp (maxSteps := 3000000) (disch := omega) only [go_sem, ↓reduceIte, reduceCtorEq, pappend, plen, lf, f2, f3, g1, g2, c1, x136, he, hE5, hlM])))
  refine hK _ _ ?_; clear hK K
  (refine PW.ret ⟨_, rfl, ?_⟩; first | refine .inl ⟨?_, rfl⟩ | refine Fin.base (.id' ?_ (.bool _)) | refine Fin.base (.id' ?_ (.int _ _)))
  rfl
/-- Which frames are candidates. -/
def isS (l : List (Option Sh)) (i : Nat) : Bool := (sh l i).isSome
set_option maxHeartbeats 2000000 in
theorem cand_ok (f : Fl) (hf : FlM f) (H : Heap) : CallOk Try.prog 41 [.agg (sqc f.s), .bool f.top, .slice (f.ex.flatMap exc) f.ex.length false, .slice (f.me.flatMap ixc) f.me.length false] H (.slice (fs (rg f.ex.length (isS (f.ex.map (shOf f.s f.top f.me))))) f.ex.length false) H := by
  have ls := sqc_len f.s hf.s
  have cs := sqc_c f.s
  have ts : (sqc f.s).take 135 = sqc f.s := List.take_of_length_le (by omega)
  have hM : ∀ x ∈ f.me, SqL x.sq := fun x hx => (hf.ix x hx).1
  have fo := fun K s => find_ok f.me false s K hM (by have := hf.me; omega)
  have hlM := ixl_len f.me hM
  have hxat := fun k => fm_at' ixc 137 ix0 f.me k (fun x hx => ixc_len x (hM x hx))
  change ∀ k, k < f.me.length → List.take 137 (List.drop (k * 137) (f.me.flatMap ixc)) = ixc (ixAt f.me k) at hxat
  have c1 := exl_len f.ex
  have hfn := hf.n
  have hfm := hf.me
  have hz : (List.replicate f.ex.length [PV.bool false]).flatten = fs (rg f.ex.length fun i => decide (i < 0) && isS (f.ex.map (shOf f.s f.top f.me)) i) := by
    rw [rg_ext f.ex.length (g' := fun _ => false) (fun i _ => by simp), rg_false]; rfl
  have hsh := sh_map f.s f.top f.me f.ex
  generalize hl : f.ex.map (shOf f.s f.top f.me) = l at *
  refine CallOk.body (F0 := [(0, .agg (sqc f.s)), (1, .bool f.top), (2, .slice (f.ex.flatMap exc) f.ex.length false), (3, .slice (f.me.flatMap ixc) f.me.length false)]) Try.func41 rfl Try.ntmps41 Try.results41 rfl (by kernel_rfl) rfl ?_
  (repeat refine PW.seq ?_); refine PW.rg rfl fun K hK => ?_; simp (maxSteps := 3000000) (disch := omega) only [go_sem, ↓reduceIte, reduceCtorEq, pappend, plen, cs]; refine hK _ _ ?_; clear hK K
  (repeat refine PW.seq ?_); refine PW.rg rfl fun K hK => ?_; simp (maxSteps := 3000000) (disch := omega) only [go_sem, ↓reduceIte, reduceCtorEq, pappend, plen]; refine hK _ _ ?_; clear hK K
  (repeat refine PW.seq ?_); refine PW.rg rfl fun K hK => ?_; simp (maxSteps := 3000000) (disch := omega) only [go_sem, ↓reduceIte, reduceCtorEq, pappend, plen]; refine hK _ _ ?_; clear hK K
  (repeat refine PW.seq ?_); refine PW.block (PW.loop ?_)
  suffices hl1 : ∀ j : Nat, j ≤ f.ex.length → PL Try.prog _ _ [(1, .bool f.top), (2, .slice (f.ex.flatMap exc) f.ex.length false), (3, .slice (f.me.flatMap ixc) f.me.length false), (4, .ptr H.length 0 0), (9, .msl (H.length + 1) 0 0 f.ex.length 1 true), (10, .int .i64 (j : Int))] (H ++ [⟨39, 0, sqc f.s⟩, ⟨4, 0, fs (rg f.ex.length fun i => decide (i < j) && isS l i)⟩]) _ by
    refine PL.at [1, 2, 3, 4, 9, 10] (hl1 0 (by omega)) rfl ?_
    rw [← hz]
  intro j hj
  induction hd : f.ex.length - j using Nat.strongRecOn generalizing j with
  | _ d ih =>
    have hl6 : (fs (rg f.ex.length fun i => decide (i < j) && isS l i)).length = f.ex.length := by rw [fs_len, rg_len]
    refine PL.round ?_; (repeat refine PW.seq ?_); refine PW.rg rfl fun K hK => ?_; simp (maxSteps := 3000000) (disch := omega) only [go_sem, ↓reduceIte, reduceCtorEq, pappend, plen]; refine hK _ _ ?_; clear hK K
    (repeat refine PW.seq ?_); refine PW.cond (t := _) rfl (fun h => ?_) (fun h => ?_)
    rotate_left
    · have h4 : j = f.ex.length := by have := of_decide_eq_false h; omega
      subst h4
      refine PW.exit ?_
      have e : fs (rg f.ex.length fun i => decide (i < f.ex.length) && isS l i) = fs (rg f.ex.length (isS l)) := by
        rw [rg_ext f.ex.length (fun i hi => by rw [decide_eq_true hi, Bool.true_and])]
      rw [e] at hl6 ⊢
      (repeat refine PW.seq ?_); refine PW.rg rfl fun K hK => ?_; simp (maxSteps := 3000000) (disch := omega) only [go_sem, ↓reduceIte, reduceCtorEq, pappend, plen]; refine hK _ _ ?_; clear hK K
      refine PW.ret ⟨_, rfl, ?_⟩
      exact Fin.base (Fz.mslC (e := 4) (xs := fs (rg f.ex.length (isS l))) (by omega) (hp1 _ _ _ _) (by rw [hl6]; omega) (FzC.refl (fs_scoped _ _)))
    · have h4 : j < f.ex.length := by have := of_decide_eq_true h; omega
      obtain ⟨g1, g2, g0⟩ := ex_at1 h4
      have hs := hsh j h4
      have hset := rg_set f.ex.length (fun i => decide (i < j) && isS l i) j (isS l j)
      have hext : rg f.ex.length (fun i => if i = j then isS l j else (decide (i < j) && isS l i)) = rg f.ex.length (fun i => decide (i < j + 1) && isS l i) := rg_ext f.ex.length (fun i hi => by
        by_cases e : i = j
        · rw [if_pos e, e, decide_eq_true (by omega : j < j + 1), Bool.true_and]
        · rw [if_neg e]
          by_cases e2 : i < j
          · rw [decide_eq_true e2, decide_eq_true (by omega : i < j + 1)]
          · rw [decide_eq_false e2, decide_eq_false (by omega : ¬ i < j + 1)])
      rw [hext] at hset
      generalize exAt f.ex j = e at *
      refine PW.skip ?_; (repeat refine PW.seq ?_); refine PW.block ?_
      (repeat refine PW.seq ?_); refine PW.rg rfl fun K hK => ?_; simp (maxSteps := 3000000) (disch := omega) only [go_sem, ↓reduceIte, reduceCtorEq, pappend, plen]; refine hK _ _ ?_; clear hK K
      (repeat refine PW.seq ?_); refine PW.rg rfl fun K hK => ?_; simp (maxSteps := 3000000) (disch := omega) only [go_sem, ↓reduceIte, reduceCtorEq, pappend, plen, g0, c1]; refine hK _ _ ?_; clear hK K
      generalize hk : (if e.op = 1 then fdI (fnd f.me e.m f.me.length) else -1) = k
      refine PW.meet [1, 2, 3, 4, 9, 10, 11] [(1, .bool f.top), (2, .slice (f.ex.flatMap exc) f.ex.length false), (3, .slice (f.me.flatMap ixc) f.me.length false), (4, .ptr H.length 0 0), (9, .msl (H.length + 1) 0 0 f.ex.length 1 true), (10, .int .i64 (j : Int)), (11, .int .i64 k)] (H ++ [⟨39, 0, sqc f.s⟩, ⟨4, 0, fs (rg f.ex.length fun i => decide (i < j) && isS l i)⟩]) ?_ ?_
      · (repeat refine PW.seq ?_); refine PW.cond (t := _) rfl (fun h => ?_) (fun h => ?_)
        · have ho : e.op = 1 := by simpa using h
          rw [if_pos ho] at hk
          subst hk
          (repeat refine PW.seq ?_); refine PW.rg rfl fun K hK => ?_; simp (maxSteps := 3000000) (disch := omega) only [go_sem, ↓reduceIte, reduceCtorEq, pappend, plen, g1, c1]; refine VCx.call (fo _ e.m) rfl ?_; simp (maxSteps := 3000000) (disch := omega) only [go_sem, ↓reduceIte, reduceCtorEq, pappend, plen, g1, c1]; refine hK _ _ ?_; clear hK K
          exact ⟨rfl, rfl⟩
        · have ho : e.op ≠ 1 := by simpa using h
          rw [if_neg ho] at hk
          subst hk
          exact PW.skip ⟨rfl, rfl⟩
      have hcase : (k = -1 ∧ isS l j = false) ∨ ∃ q : Nat, k = (q : Int) ∧ q < f.me.length ∧ isS l j = usb f.s f.top (ixAt f.me q) e.fr := by
        unfold isS
        rw [hs]
        unfold shOf
        by_cases ho : e.op = 1
        · rw [if_pos ho] at hk ⊢
          cases hf' : fnd f.me e.m f.me.length with
          | none => rw [hf'] at hk; exact .inl ⟨hk.symm, rfl⟩
          | some q =>
            rw [hf'] at hk
            refine .inr ⟨q, hk.symm, (fnd_lt hf').1, ?_⟩
            dsimp only
            cases usb f.s f.top (ixAt f.me q) e.fr <;> rfl
        · rw [if_neg ho] at hk ⊢
          exact .inl ⟨hk.symm, rfl⟩
      have nx : PL Try.prog _ _ [(1, .bool f.top), (2, .slice (f.ex.flatMap exc) f.ex.length false), (3, .slice (f.me.flatMap ixc) f.me.length false), (4, .ptr H.length 0 0), (9, .msl (H.length + 1) 0 0 f.ex.length 1 true), (10, .int .i64 ((j + 1 : Nat) : Int))] (H ++ [⟨39, 0, sqc f.s⟩, ⟨4, 0, fs (rg f.ex.length fun i => decide (i < j + 1) && isS l i)⟩]) _ := ih (f.ex.length - (j + 1)) (by omega) (j + 1) (by omega) rfl
      rcases hcase with ⟨rfl, hi⟩ | ⟨q, rfl, hq, hi⟩
      · rw [hi] at hset
        (repeat refine PW.seq ?_); refine PW.drawi [H.length + 1] [(9, [0]), (34, [0]), (52, [0])] [] [] mix (by kernel_rfl) (by simp <;> omega) fun K hK => ?_
        simp (maxSteps := 3000000) (disch := omega) only [go_sem, ↓reduceIte, reduceCtorEq, pappend, plen, hl6, hset]
        refine hK _ _ ?_; clear hK K
        (repeat refine PW.seq ?_); refine PW.rg rfl fun K hK => ?_; simp (maxSteps := 3000000) (disch := omega) only [go_sem, ↓reduceIte, reduceCtorEq, pappend, plen]; refine hK _ _ ?_; clear hK K
        exact PL.at [1, 2, 3, 4, 9, 10] nx rfl rfl
      · have hx := hf.ix _ (getD_mem ix0 f.me q hq)
        change SqL (ixAt f.me q).sq ∧ (ixAt f.me q).en.length ≤ 100 at hx
        have hxa := hxat q hq
        have uo := fun K => usb_ref f.s f.top (ixAt f.me q) e.fr K hf.s hx.1 (by omega)
        rw [← hi] at uo
        have lx := ixc_len _ hx.1
        have d1 : decide ((0 : Int) ≤ (q : Int)) = true := decide_eq_true (by omega)
        generalize ixAt f.me q = x at *
        (repeat refine PW.seq ?_); refine PW.drawi [H.length + 1] [(9, [0]), (34, [0]), (52, [0])] [] [] mix (by kernel_rfl) (by simp <;> omega) fun K hK => ?_
        simp (maxSteps := 3000000) (disch := omega) only [go_sem, ↓reduceIte, reduceCtorEq, pappend, plen, d1, hl6, hset, ls, ts, g2, c1, hxa, hlM, lx]
        refine VCj.read (fun _ _ => uo _) rfl ?_
        simp (maxSteps := 3000000) (disch := omega) only [go_sem, ↓reduceIte, reduceCtorEq, pappend, plen, hl6, hset]
        refine hK _ _ ?_; clear hK K
        (repeat refine PW.seq ?_); refine PW.rg rfl fun K hK => ?_; simp (maxSteps := 3000000) (disch := omega) only [go_sem, ↓reduceIte, reduceCtorEq, pappend, plen]; refine hK _ _ ?_; clear hK K
        exact PL.at [1, 2, 3, 4, 9, 10] nx rfl rfl

/-- The reference before a frame. -/
theorem rfB_step (l : List (Option Sh)) (k : Nat) : rfB l (k + 1) = if adj l k then (if kd (sh l k) = 3 then rfB l k else k + 1) else 0 := rfl
theorem rfFF_step (l : List (Option Sh)) (f i : Nat) : rfFF l (f + 1) i = if adj l i then (if kd (sh l (i + 1)) = 3 then rfFF l f (i + 1) else i + 1) else 0 := rfl

set_option maxHeartbeats 4000000 in
theorem refB_ok (f : Fl) (hf : FlM f) (l : List (Option Sh)) (hs : FlS f l) (i : Nat) (x : Sh) (hx : sh l i = some x) (H : Heap) : CallOk Try.prog 42 [.agg (flc f), .slice (fs (rg f.ex.length (isS l))) f.ex.length false, .int .i64 (i : Int), .int .i64 (-1)] H (.int .i64 ((rfB l i : Int) - 1)) H := by
  obtain ⟨lf, cf, tf, f0, f1, f2, f3⟩ := flC_ok f hf.s
  obtain ⟨i1, i2, _⟩ := hs.sh i x hx
  obtain ⟨gi1, gi2, _⟩ := ex_at1 i1
  rw [i2] at gi1 gi2
  dsimp only at gi1 gi2
  have hnb := hs.nb i x hx
  have hl6 : (fs (rg f.ex.length (isS l))).length = f.ex.length := by rw [fs_len, rg_len]
  have hrc := rg_cell f.ex.length (isS l)
  have c1 := exl_len f.ex
  have hfn := hf.n
  refine CallOk.body (F0 := [(0, .agg (flc f)), (1, .slice (fs (rg f.ex.length (isS l))) f.ex.length false), (2, .int .i64 (i : Int)), (3, .int .i64 (-1))]) Try.func42 rfl Try.ntmps42 Try.results42 rfl (by kernel_rfl) rfl ?_
  (repeat refine PW.seq ?_); refine PW.rg rfl fun K hK => ?_; simp (maxSteps := 3000000) (disch := omega) only [go_sem, ↓reduceIte, reduceCtorEq, pappend, plen, cf]; refine hK _ _ ?_; clear hK K
  (repeat refine PW.seq ?_); refine PW.rg rfl fun K hK => ?_; simp (maxSteps := 3000000) (disch := omega) only [go_sem, ↓reduceIte, reduceCtorEq, pappend, plen]; refine hK _ _ ?_; clear hK K
  (repeat refine PW.seq ?_); refine PW.block (PW.loop ?_)
  suffices hl1 : ∀ m : Nat, m ≤ i → rfB l i = rfB l m → (∃ k, sh l m = some ⟨x.m, x.n - ((i : Int) - (m : Int)), k⟩) → PL Try.prog _ _ [(1, .slice (fs (rg f.ex.length (isS l))) f.ex.length false), (2, .int .i64 (i : Int)), (3, .int .i64 (-1)), (4, .ptr H.length 0 0), (9, .int .i64 ((m : Int) - 1))] (H ++ [⟨50, 0, flc f⟩]) _ by
    refine PL.at [1, 2, 3, 4, 9] (hl1 i (Nat.le_refl _) rfl ⟨x.k, ?_⟩) ?_ rfl
    · rw [hx]
      obtain ⟨m, n, k⟩ := x
      simp
    · simp (maxSteps := 3000000) (disch := omega) only [go_sem, ↓reduceIte, reduceCtorEq, pappend, plen]
      simp only [Int.sub_eq_add_neg]
  intro m hm hB hshm
  induction m using Nat.strongRecOn with
  | _ m ih =>
    obtain ⟨km, hkm⟩ := hshm
    have hnbm := hs.nb _ _ hkm
    dsimp only at hnbm
    refine PL.round ?_
    cases m with
    | zero =>
      have d1 : decide ((0 : Int) ≤ ((0 : Nat) : Int) - 1) = false := decide_eq_false (by omega)
      (repeat refine PW.seq ?_); refine PW.rg rfl fun K hK => ?_; simp (maxSteps := 3000000) (disch := omega) only [go_sem, ↓reduceIte, reduceCtorEq, pappend, plen, d1]; refine hK _ _ ?_; clear hK K
      (repeat refine PW.seq ?_); refine PW.cond (t := _) rfl (fun h => ?_) (fun h => ?_)
      · cases h
      refine PW.exit ?_
      (repeat refine PW.seq ?_); refine PW.rg rfl fun K hK => ?_; simp (maxSteps := 3000000) (disch := omega) only [go_sem, ↓reduceIte, reduceCtorEq, pappend, plen]; refine hK _ _ ?_; clear hK K
      (refine PW.ret ⟨_, rfl, ?_⟩; first | refine .inl ⟨?_, rfl⟩ | refine Fin.base (.id' ?_ (.bool _)) | refine Fin.base (.id' ?_ (.int _ _)))
      rw [hB]
      rfl
    | succ k =>
      have e0 : ((k + 1 : Nat) : Int) - 1 = (k : Int) := by omega
      have d1 : decide ((0 : Int) ≤ (k : Int)) = true := decide_eq_true (by omega)
      have d2 : decide ((k : Int) < (f.ex.length : Int)) = true := decide_eq_true (by omega)
      obtain ⟨g1, g2, _⟩ := ex_at1 (E := f.ex) (i := k) (by omega)
      have hrk := hrc k (by omega)
      rw [rfB_step] at hB
      rw [e0]
      (repeat refine PW.seq ?_); refine PW.rg rfl fun K hK => ?_; simp (maxSteps := 3000000) (disch := omega) only [go_sem, ↓reduceIte, reduceCtorEq, pappend, plen, d1, d2, lf, f2]; refine hK _ _ ?_; clear hK K
      (repeat refine PW.seq ?_); refine PW.cond (t := _) rfl (fun h => ?_) (fun h => ?_)
      rotate_left
      · cases h
      refine PW.skip ?_; (repeat refine PW.seq ?_); refine PW.block ?_
      have hadj : adj l k = (isS l k && ((x.m == shm (sh l k)) && (x.n - ((i : Int) - ((k + 1 : Nat) : Int)) == shn (sh l k) + 1))) := by
        rw [adj_iff, hkm]; rfl
      cases hk : sh l k with
      | none =>
        have hik : isS l k = false := by unfold isS; rw [hk]; rfl
        rw [hik] at hrk hadj
        rw [hadj] at hB
        (repeat refine PW.seq ?_); refine PW.draw mix (by kernel_rfl) fun K hK => ?_; simp (maxSteps := 3000000) (disch := omega) only [go_sem, ↓reduceIte, reduceCtorEq, pappend, plen, hrk, hl6]; refine hK _ _ ?_; clear hK K
        (repeat refine PW.seq ?_); refine PW.cond (t := _) rfl (fun h => ?_) (fun h => ?_)
        rotate_left
        · cases h
        (repeat refine PW.seq ?_); refine PW.rg rfl fun K hK => ?_; simp (maxSteps := 3000000) (disch := omega) only [go_sem, ↓reduceIte, reduceCtorEq, pappend, plen]; refine hK _ _ ?_; clear hK K
        (refine PW.ret ⟨_, rfl, ?_⟩; first | refine .inl ⟨?_, rfl⟩ | refine Fin.base (.id' ?_ (.bool _)) | refine Fin.base (.id' ?_ (.int _ _)))
        rw [hB]
        rfl
      | some y =>
        have hik : isS l k = true := by unfold isS; rw [hk]; rfl
        obtain ⟨_, y2, _⟩ := hs.sh k y hk
        have hnby := hs.nb k y hk
        rw [y2] at g1 g2
        dsimp only at g1 g2
        rw [hik] at hrk hadj
        rw [hk] at hadj hB
        have to' := fun K => typ_ok f hf l hs k y hk K
        change adj l k = (true && ((x.m == y.m) && (x.n - ((i : Int) - ((k + 1 : Nat) : Int)) == y.n + 1))) at hadj
        change rfB l i = if adj l k = true then (if y.k = 3 then rfB l k else k + 1) else 0 at hB
        have e5 : x.n + ((k : Int) - (i : Int)) = x.n + (k : Int) - (i : Int) := by omega
        (repeat refine PW.seq ?_); refine PW.draw mix (by kernel_rfl) fun K hK => ?_; simp (maxSteps := 3000000) (disch := omega) only [go_sem, ↓reduceIte, reduceCtorEq, pappend, plen, hrk, hl6, lf, f2, g1, g2, gi1, gi2, c1]
        (repeat' ((first | refine VO_cond (fun h => ?_) (fun h => ?_) | refine VOd_cond (fun h => ?_) (fun h => ?_) | refine VOg_cond (fun h => ?_) (fun h => ?_) | refine VOh_cond (fun h => ?_) (fun h => ?_) | refine VOi_cond (fun h => ?_) (fun h => ?_) | refine And.intro (fun h => ?_) (fun h => ?_)) <;> (try simp only [Bool.not_eq_true', Bool.not_eq_false', decide_eq_true_eq, decide_eq_false_iff_not] at h) <;> simp (maxSteps := 3000000) (disch := omega) only [go_sem, ↓reduceIte, reduceCtorEq, pappend, plen, hrk, hl6, lf, f2, g1, g2, gi1, gi2, c1, h]))
        all_goals refine hK _ _ ?_; clear hK K
        · have hm1 : y.m = x.m := by simpa using h
          (repeat refine PW.seq ?_); refine PW.cond (t := _) rfl (fun h => ?_) (fun h => ?_)
          · have hy : y.n ≠ x.n + ((k : Int) - (i : Int)) := by simpa using h
            have ha : adj l k = false := by
              rw [hadj]
              simp only [Bool.true_and, Bool.and_eq_false_iff]
              right
              simp
              omega
            rw [if_neg (by rw [ha]; decide)] at hB
            (repeat refine PW.seq ?_); refine PW.rg rfl fun K hK => ?_; simp (maxSteps := 3000000) (disch := omega) only [go_sem, ↓reduceIte, reduceCtorEq, pappend, plen]; refine hK _ _ ?_; clear hK K
            (refine PW.ret ⟨_, rfl, ?_⟩; first | refine .inl ⟨?_, rfl⟩ | refine Fin.base (.id' ?_ (.bool _)) | refine Fin.base (.id' ?_ (.int _ _)))
            rw [hB]
            rfl
          · have hy : y.n = x.n + ((k : Int) - (i : Int)) := by simpa using h
            have ha : adj l k = true := by
              rw [hadj]
              simp only [Bool.true_and, Bool.and_eq_true, beq_iff_eq]
              exact ⟨hm1.symm, by omega⟩
            rw [if_pos ha] at hB
            refine PW.skip ?_
            (repeat refine PW.seq ?_); refine PW.rg rfl fun K hK => ?_; simp (maxSteps := 3000000) (disch := omega) only [go_sem, ↓reduceIte, reduceCtorEq, pappend, plen, lf, tf, cf]; refine VCx.call (to' _) rfl ?_; simp (maxSteps := 3000000) (disch := omega) only [go_sem, ↓reduceIte, reduceCtorEq, pappend, plen, lf, tf, cf]; refine hK _ _ ?_; clear hK K
            (repeat refine PW.seq ?_); refine PW.cond (t := _) rfl (fun h => ?_) (fun h => ?_)
            · have hy3 : y.k ≠ 3 := by simpa using h
              rw [if_neg hy3] at hB
              (repeat refine PW.seq ?_); refine PW.rg rfl fun K hK => ?_; simp (maxSteps := 3000000) (disch := omega) only [go_sem, ↓reduceIte, reduceCtorEq, pappend, plen]; refine hK _ _ ?_; clear hK K
              (refine PW.ret ⟨_, rfl, ?_⟩; first | refine .inl ⟨?_, rfl⟩ | refine Fin.base (.id' ?_ (.bool _)) | refine Fin.base (.id' ?_ (.int _ _)))
              rw [hB]
              show PV.int .i64 (k : Int) = _
              congr 1
              omega
            · have hy3 : y.k = 3 := by simpa using h
              rw [if_pos hy3] at hB
              refine PW.skip ?_
              (repeat refine PW.seq ?_); refine PW.rg rfl fun K hK => ?_; simp (maxSteps := 3000000) (disch := omega) only [go_sem, ↓reduceIte, reduceCtorEq, pappend, plen]; refine hK _ _ ?_; clear hK K
              refine PL.at [1, 2, 3, 4, 9] (ih k (by omega) (by omega) hB ⟨y.k, ?_⟩) ?_ rfl
              · rw [hk, ← hm1]
                obtain ⟨ym, yn, yk⟩ := y
                dsimp only at hy ⊢
                congr 2
                omega
              · simp (maxSteps := 3000000) (disch := omega) only [go_sem, ↓reduceIte, reduceCtorEq, pappend, plen]
                simp only [Int.sub_eq_add_neg]
        · have hm1 : y.m ≠ x.m := by simpa using h
          have ha : adj l k = false := by
            rw [hadj]
            simp only [Bool.true_and, Bool.and_eq_false_iff]
            left
            simp
            exact fun e => hm1 e.symm
          rw [if_neg (by rw [ha]; decide)] at hB
          (repeat refine PW.seq ?_); refine PW.cond (t := _) rfl (fun h => ?_) (fun h => ?_)
          rotate_left
          · cases h
          (repeat refine PW.seq ?_); refine PW.rg rfl fun K hK => ?_; simp (maxSteps := 3000000) (disch := omega) only [go_sem, ↓reduceIte, reduceCtorEq, pappend, plen]; refine hK _ _ ?_; clear hK K
          (refine PW.ret ⟨_, rfl, ?_⟩; first | refine .inl ⟨?_, rfl⟩ | refine Fin.base (.id' ?_ (.bool _)) | refine Fin.base (.id' ?_ (.int _ _)))
          rw [hB]
          rfl

def rfI (l : List (Option Sh)) (i : Nat) : Int := if rfF l i = 0 then -1 else (rfF l i : Int)
set_option maxHeartbeats 4000000 in
theorem refF_ok (f : Fl) (hf : FlM f) (l : List (Option Sh)) (hs : FlS f l) (i : Nat) (x : Sh) (hx : sh l i = some x) (H : Heap) : CallOk Try.prog 42 [.agg (flc f), .slice (fs (rg f.ex.length (isS l))) f.ex.length false, .int .i64 (i : Int), .int .i64 1] H (.int .i64 (rfI l i)) H := by
  obtain ⟨lf, cf, tf, f0, f1, f2, f3⟩ := flC_ok f hf.s
  obtain ⟨i1, i2, _⟩ := hs.sh i x hx
  obtain ⟨gi1, gi2, _⟩ := ex_at1 i1
  rw [i2] at gi1 gi2
  dsimp only at gi1 gi2
  have hnb := hs.nb i x hx
  have hl6 : (fs (rg f.ex.length (isS l))).length = f.ex.length := by rw [fs_len, rg_len]
  have hrc := rg_cell f.ex.length (isS l)
  have c1 := exl_len f.ex
  have hfn := hf.n
  have hll := hs.len
  refine CallOk.body (F0 := [(0, .agg (flc f)), (1, .slice (fs (rg f.ex.length (isS l))) f.ex.length false), (2, .int .i64 (i : Int)), (3, .int .i64 1)]) Try.func42 rfl Try.ntmps42 Try.results42 rfl (by kernel_rfl) rfl ?_
  (repeat refine PW.seq ?_); refine PW.rg rfl fun K hK => ?_; simp (maxSteps := 3000000) (disch := omega) only [go_sem, ↓reduceIte, reduceCtorEq, pappend, plen, cf]; refine hK _ _ ?_; clear hK K
  (repeat refine PW.seq ?_); refine PW.rg rfl fun K hK => ?_; simp (maxSteps := 3000000) (disch := omega) only [go_sem, ↓reduceIte, reduceCtorEq, pappend, plen]; refine hK _ _ ?_; clear hK K
  (repeat refine PW.seq ?_); refine PW.block (PW.loop ?_)
  suffices hl1 : ∀ e fu : Nat, i ≤ e → e < f.ex.length → fu + (e - i) = l.length → rfF l i = rfFF l fu e → (∃ k, sh l e = some ⟨x.m, x.n + ((e : Int) - (i : Int)), k⟩) → PL Try.prog _ _ [(1, .slice (fs (rg f.ex.length (isS l))) f.ex.length false), (2, .int .i64 (i : Int)), (3, .int .i64 1), (4, .ptr H.length 0 0), (9, .int .i64 ((e + 1 : Nat) : Int))] (H ++ [⟨50, 0, flc f⟩]) _ by
    refine PL.at [1, 2, 3, 4, 9] (hl1 i l.length (Nat.le_refl _) i1 (by omega) rfl ⟨x.k, ?_⟩) rfl rfl
    rw [hx]
    obtain ⟨m, n, k⟩ := x
    simp
  intro e fu he1 he2 hfu hF hshm
  induction hd : f.ex.length - e using Nat.strongRecOn generalizing e fu with
  | _ d ih =>
    obtain ⟨km, hkm⟩ := hshm
    have hnbm := hs.nb _ _ hkm
    dsimp only at hnbm
    obtain ⟨fu, rfl⟩ : ∃ g, fu = g + 1 := ⟨fu - 1, by omega⟩
    rw [rfFF_step] at hF
    have d1 : decide ((0 : Int) ≤ ((e + 1 : Nat) : Int)) = true := decide_eq_true (by omega)
    refine PL.round ?_
    by_cases hel : e + 1 < f.ex.length
    · have d2 : decide (((e + 1 : Nat) : Int) < (f.ex.length : Int)) = true := decide_eq_true (by omega)
      obtain ⟨g1, g2, _⟩ := ex_at1 (E := f.ex) (i := e + 1) (by omega)
      have hrk := hrc (e + 1) (by omega)
      (repeat refine PW.seq ?_); refine PW.rg rfl fun K hK => ?_; simp (maxSteps := 3000000) (disch := omega) only [go_sem, ↓reduceIte, reduceCtorEq, pappend, plen, d1, d2, lf, f2]; refine hK _ _ ?_; clear hK K
      (repeat refine PW.seq ?_); refine PW.cond (t := _) rfl (fun h => ?_) (fun h => ?_)
      rotate_left
      · cases h
      refine PW.skip ?_; (repeat refine PW.seq ?_); refine PW.block ?_
      have hadj : adj l e = (isS l (e + 1) && ((shm (sh l (e + 1)) == x.m) && (shn (sh l (e + 1)) == x.n + ((e : Int) - (i : Int)) + 1))) := by
        rw [adj_iff, hkm]; rfl
      cases hk : sh l (e + 1) with
      | none =>
        have hik : isS l (e + 1) = false := by unfold isS; rw [hk]; rfl
        rw [hik] at hrk hadj
        rw [hadj] at hF
        (repeat refine PW.seq ?_); refine PW.draw mix (by kernel_rfl) fun K hK => ?_; simp (maxSteps := 3000000) (disch := omega) only [go_sem, ↓reduceIte, reduceCtorEq, pappend, plen, hrk, hl6]; refine hK _ _ ?_; clear hK K
        (repeat refine PW.seq ?_); refine PW.cond (t := _) rfl (fun h => ?_) (fun h => ?_)
        rotate_left
        · cases h
        (repeat refine PW.seq ?_); refine PW.rg rfl fun K hK => ?_; simp (maxSteps := 3000000) (disch := omega) only [go_sem, ↓reduceIte, reduceCtorEq, pappend, plen]; refine hK _ _ ?_; clear hK K
        (refine PW.ret ⟨_, rfl, ?_⟩; first | refine .inl ⟨?_, rfl⟩ | refine Fin.base (.id' ?_ (.bool _)) | refine Fin.base (.id' ?_ (.int _ _)))
        unfold rfI
        rw [hF]
        rfl
      | some y =>
        have hik : isS l (e + 1) = true := by unfold isS; rw [hk]; rfl
        obtain ⟨_, y2, _⟩ := hs.sh (e + 1) y hk
        have hnby := hs.nb (e + 1) y hk
        rw [y2] at g1 g2
        dsimp only at g1 g2
        rw [hik] at hrk hadj
        rw [hk] at hadj hF
        have to' := fun K => typ_ok f hf l hs (e + 1) y hk K
        change adj l e = (true && ((y.m == x.m) && (y.n == x.n + ((e : Int) - (i : Int)) + 1))) at hadj
        change rfF l i = if adj l e = true then (if y.k = 3 then rfFF l fu (e + 1) else e + 1) else 0 at hF
        (repeat refine PW.seq ?_); refine PW.draw mix (by kernel_rfl) fun K hK => ?_; simp (maxSteps := 3000000) (disch := omega) only [go_sem, ↓reduceIte, reduceCtorEq, pappend, plen, hrk, hl6, lf, f2, g1, g2, gi1, gi2, c1]
        (repeat' ((first | refine VO_cond (fun h => ?_) (fun h => ?_) | refine VOd_cond (fun h => ?_) (fun h => ?_) | refine VOg_cond (fun h => ?_) (fun h => ?_) | refine VOh_cond (fun h => ?_) (fun h => ?_) | refine VOi_cond (fun h => ?_) (fun h => ?_) | refine And.intro (fun h => ?_) (fun h => ?_)) <;> (try simp only [Bool.not_eq_true', Bool.not_eq_false', decide_eq_true_eq, decide_eq_false_iff_not] at h) <;> simp (maxSteps := 3000000) (disch := omega) only [go_sem, ↓reduceIte, reduceCtorEq, pappend, plen, hrk, hl6, lf, f2, g1, g2, gi1, gi2, c1, h]))
        all_goals refine hK _ _ ?_; clear hK K
        · have hm1 : y.m = x.m := by simpa using h
          (repeat refine PW.seq ?_); refine PW.cond (t := _) rfl (fun h => ?_) (fun h => ?_)
          · have hy : y.n ≠ x.n + (((e + 1 : Nat) : Int) - (i : Int)) := by simpa using h
            have ha : adj l e = false := by
              rw [hadj]
              simp only [Bool.true_and, Bool.and_eq_false_iff]
              right
              simp
              omega
            rw [if_neg (by rw [ha]; decide)] at hF
            (repeat refine PW.seq ?_); refine PW.rg rfl fun K hK => ?_; simp (maxSteps := 3000000) (disch := omega) only [go_sem, ↓reduceIte, reduceCtorEq, pappend, plen]; refine hK _ _ ?_; clear hK K
            (refine PW.ret ⟨_, rfl, ?_⟩; first | refine .inl ⟨?_, rfl⟩ | refine Fin.base (.id' ?_ (.bool _)) | refine Fin.base (.id' ?_ (.int _ _)))
            unfold rfI
            rw [hF]
            rfl
          · have hy : y.n = x.n + (((e + 1 : Nat) : Int) - (i : Int)) := by simpa using h
            have ha : adj l e = true := by
              rw [hadj]
              simp only [Bool.true_and, Bool.and_eq_true, beq_iff_eq]
              exact ⟨hm1, by omega⟩
            rw [if_pos ha] at hF
            refine PW.skip ?_
            (repeat refine PW.seq ?_); refine PW.rg rfl fun K hK => ?_; simp (maxSteps := 3000000) (disch := omega) only [go_sem, ↓reduceIte, reduceCtorEq, pappend, plen, lf, tf, cf]; refine VCx.call (to' _) rfl ?_; simp (maxSteps := 3000000) (disch := omega) only [go_sem, ↓reduceIte, reduceCtorEq, pappend, plen, lf, tf, cf]; refine hK _ _ ?_; clear hK K
            (repeat refine PW.seq ?_); refine PW.cond (t := _) rfl (fun h => ?_) (fun h => ?_)
            · have hy3 : y.k ≠ 3 := by simpa using h
              rw [if_neg hy3] at hF
              (repeat refine PW.seq ?_); refine PW.rg rfl fun K hK => ?_; simp (maxSteps := 3000000) (disch := omega) only [go_sem, ↓reduceIte, reduceCtorEq, pappend, plen]; refine hK _ _ ?_; clear hK K
              (refine PW.ret ⟨_, rfl, ?_⟩; first | refine .inl ⟨?_, rfl⟩ | refine Fin.base (.id' ?_ (.bool _)) | refine Fin.base (.id' ?_ (.int _ _)))
              unfold rfI
              rw [hF, if_neg (by omega)]
              rfl
            · have hy3 : y.k = 3 := by simpa using h
              rw [if_pos hy3] at hF
              refine PW.skip ?_
              (repeat refine PW.seq ?_); refine PW.rg rfl fun K hK => ?_; simp (maxSteps := 3000000) (disch := omega) only [go_sem, ↓reduceIte, reduceCtorEq, pappend, plen]; refine hK _ _ ?_; clear hK K
              refine PL.at [1, 2, 3, 4, 9] (ih (f.ex.length - (e + 1)) (by omega) (e + 1) fu (by omega) (by omega) (by omega) hF ⟨y.k, ?_⟩ rfl) rfl rfl
              rw [hk, ← hm1]
              obtain ⟨ym, yn, yk⟩ := y
              dsimp only at hy ⊢
              congr 2
        · have hm1 : y.m ≠ x.m := by simpa using h
          have ha : adj l e = false := by
            rw [hadj]
            simp only [Bool.true_and, Bool.and_eq_false_iff]
            left
            simp
            exact hm1
          rw [if_neg (by rw [ha]; decide)] at hF
          (repeat refine PW.seq ?_); refine PW.cond (t := _) rfl (fun h => ?_) (fun h => ?_)
          rotate_left
          · cases h
          (repeat refine PW.seq ?_); refine PW.rg rfl fun K hK => ?_; simp (maxSteps := 3000000) (disch := omega) only [go_sem, ↓reduceIte, reduceCtorEq, pappend, plen]; refine hK _ _ ?_; clear hK K
          (refine PW.ret ⟨_, rfl, ?_⟩; first | refine .inl ⟨?_, rfl⟩ | refine Fin.base (.id' ?_ (.bool _)) | refine Fin.base (.id' ?_ (.int _ _)))
          unfold rfI
          rw [hF]
          rfl
    · have d2 : decide (((e + 1 : Nat) : Int) < (f.ex.length : Int)) = false := decide_eq_false (by omega)
      have ha : adj l e = false := by
        cases hh : adj l e with
        | false => rfl
        | true => have := Pl.adj_lt hh; omega
      rw [if_neg (by rw [ha]; decide)] at hF
      (repeat refine PW.seq ?_); refine PW.rg rfl fun K hK => ?_; simp (maxSteps := 3000000) (disch := omega) only [go_sem, ↓reduceIte, reduceCtorEq, pappend, plen, d1, d2, lf, f2]; refine hK _ _ ?_; clear hK K
      (repeat refine PW.seq ?_); refine PW.cond (t := _) rfl (fun h => ?_) (fun h => ?_)
      · cases h
      refine PW.exit ?_
      (repeat refine PW.seq ?_); refine PW.rg rfl fun K hK => ?_; simp (maxSteps := 3000000) (disch := omega) only [go_sem, ↓reduceIte, reduceCtorEq, pappend, plen]; refine hK _ _ ?_; clear hK K
      (refine PW.ret ⟨_, rfl, ?_⟩; first | refine .inl ⟨?_, rfl⟩ | refine Fin.base (.id' ?_ (.bool _)) | refine Fin.base (.id' ?_ (.int _ _)))
      unfold rfI
      rw [hF]
      rfl

theorem rfB_le (l : List (Option Sh)) : ∀ i, rfB l i ≤ i
  | 0 => Nat.le_refl _
  | i + 1 => by
    rw [rfB_step]
    have := rfB_le l i
    split
    · split <;> omega
    · omega
theorem rfFF_lt (l : List (Option Sh)) : ∀ f i, i < l.length → l.length ≤ i + f → rfFF l f i < l.length
  | 0, i, h1, h2 => by omega
  | f + 1, i, h1, h2 => by
    rw [rfFF_step]
    split
    · rename_i ha
      have := Pl.adj_lt ha
      split
      · exact rfFF_lt l f (i + 1) this (by omega)
      · exact this
    · omega
/-- The frames below c that are copied. -/
def cc (l : List (Option Sh)) (n c : Nat) : List Bool := rg n fun i => decide (i < c) && cpd l i
theorem cc_set (l : List (Option Sh)) (n c : Nat) (h : cpd l c = true) : (fs (cc l n c)).set c (.bool true) = fs (cc l n (c + 1)) := by
  unfold cc
  rw [rg_set]
  congr 1
  exact rg_ext n fun i hi => by
    by_cases e : i = c
    · rw [if_pos e, e, h, decide_eq_true (by omega : c < c + 1)]; rfl
    · rw [if_neg e]
      by_cases e2 : i < c
      · rw [decide_eq_true e2, decide_eq_true (by omega : i < c + 1)]
      · rw [decide_eq_false e2, decide_eq_false (by omega : ¬ i < c + 1)]
theorem cc_coded {l : List (Option Sh)} {n c : Nat} (d : Nat) (h : ∀ j, c ≤ j → j < c + d → cpd l j = false) : cc l n (c + d) = cc l n c := rg_ext n fun i hi => by
  by_cases e : i < c
  · rw [decide_eq_true e, decide_eq_true (by omega : i < c + d)]
  · by_cases e2 : i < c + d
    · rw [h i (by omega) e2]; simp
    · rw [decide_eq_false e, decide_eq_false e2]
theorem cc_all (l : List (Option Sh)) (n i : Nat) (h : i < n) : (fs (cc l n n))[i]? = some (.bool (cpd l i)) := by
  unfold cc
  rw [rg_cell n _ i h, decide_eq_true h, Bool.true_and]
theorem cc_len (l : List (Option Sh)) (n c : Nat) : (fs (cc l n c)).length = n := by unfold cc; rw [fs_len, rg_len]
theorem cc_zero (l : List (Option Sh)) (n : Nat) : fs (cc l n 0) = (List.replicate n [PV.bool false]).flatten := by
  unfold cc
  rw [rg_ext n (g' := fun _ => false) (fun i _ => by simp), rg_false]; rfl

set_option maxRecDepth 100000 in
set_option maxHeartbeats 8000000 in
theorem law_nothing (L : List Int) (g : Bool) (H : Heap) : CallOk Try.prog 9 [.slice (is L) L.length g] H (.bool true) H := by
  have mo := fun K => made_ok L g K
  have hf := flm_more L
  have hfs := flS_ok _ hf (flm_nm L)
  generalize flm L = f at *
  have hfc := flC_ok f hf.s
  obtain ⟨lf, cf, tf, f0, f1, f2, f3⟩ := hfc
  have s1 := fun n => exl_sc n f.ex hf.ex
  have hME : ∀ x ∈ f.me, SqL x.sq ∧ x.en.length ≤ 1000000 := fun x hx => ⟨(hf.ix x hx).1, by have := (hf.ix x hx).2; omega⟩
  have hme := hf.me
  have hn := hf.n
  have k2 := fun K => make_ok f.s f.top f.ex false f.me false K hf.ok hf.vs hME (by omega) (by omega) s1
  have p2 := (Pl.pts_ok (f.ex.map (shOf f.s f.top f.me)) f.ex.length).front
  have b2 := (pts_PB (f.ex.map (shOf f.s f.top f.me)) f.ex.length).2
  have co := cand_ok f hf
  generalize f.ex.map (shOf f.s f.top f.me) = l at *
  have hv := vld_pts hfs.nb hfs.nm p2
  generalize pts l f.ex.length = ps at *
  have v2 := fun K => valid_ref ps false (f.ex.length : Int) K (by omega) (by omega)
  change vld (f.ex.length : Int) 0 ps = true at hv
  rw [hv] at v2
  have hp5 := pal_len ps
  have hat := pal_at ps
  have hcl := cc_len l f.ex.length
  have hrc := rg_cell f.ex.length (isS l)
  have hl6 : (fs (rg f.ex.length (isS l))).length = f.ex.length := by rw [fs_len, rg_len]
  refine CallOk.body (F0 := [(0, .slice (is L) L.length g)]) Try.func9 rfl Try.ntmps9 Try.results9 rfl (by kernel_rfl) rfl ?_
  (repeat refine PW.seq ?_); refine PW.rg rfl fun K hK => ?_; simp (maxSteps := 3000000) (disch := omega) only [go_sem, ↓reduceIte, reduceCtorEq, pappend, plen]; refine hK _ _ ?_; clear hK K
  (repeat refine PW.seq ?_); refine PW.rg rfl fun K hK => ?_; simp (maxSteps := 3000000) (disch := omega) only [go_sem, ↓reduceIte, reduceCtorEq, pappend, plen, lf, cf]; refine VCx.call (mo _) rfl ?_; simp (maxSteps := 3000000) (disch := omega) only [go_sem, ↓reduceIte, reduceCtorEq, pappend, plen, lf, cf]; refine hK _ _ ?_; clear hK K
  (repeat refine PW.seq ?_); refine PW.rg rfl fun K hK => ?_; simp (maxSteps := 3000000) (disch := omega) only [go_sem, ↓reduceIte, reduceCtorEq, pappend, plen, lf, f0, f1, f2, f3]; refine VCx.call (k2 _) rfl ?_; simp (maxSteps := 3000000) (disch := omega) only [go_sem, ↓reduceIte, reduceCtorEq, pappend, plen, lf, f0, f1, f2, f3]; refine hK _ _ ?_; clear hK K
  (repeat refine PW.seq ?_); refine PW.rg rfl fun K hK => ?_; simp (maxSteps := 3000000) (disch := omega) only [go_sem, ↓reduceIte, reduceCtorEq, pappend, plen, lf, f2]
  (repeat' (first | ((first | refine VO_cond (fun h => ?_) (fun h => ?_) | refine VOd_cond (fun h => ?_) (fun h => ?_) | refine VOg_cond (fun h => ?_) (fun h => ?_) | refine VOh_cond (fun h => ?_) (fun h => ?_) | refine VOi_cond (fun h => ?_) (fun h => ?_) | refine And.intro (fun h => ?_) (fun h => ?_)) <;> (try simp only [Bool.not_eq_true', Bool.not_eq_false', decide_eq_true_eq, decide_eq_false_iff_not] at h) <;> simp (maxSteps := 3000000) (disch := omega) only [go_sem, ↓reduceIte, reduceCtorEq, pappend, plen, lf, f2, h]) | (refine VCx.call (v2 _) rfl ?_; simp (maxSteps := 3000000) (disch := omega) only [go_sem, ↓reduceIte, reduceCtorEq, pappend, plen, lf, f2]) | (refine VCy.call (v2 _) rfl ?_; simp (maxSteps := 3000000) (disch := omega) only [go_sem, ↓reduceIte, reduceCtorEq, pappend, plen, lf, f2]) | (refine VCz.call (fun _ => v2 _) rfl ?_; simp (maxSteps := 3000000) (disch := omega) only [go_sem, ↓reduceIte, reduceCtorEq, pappend, plen, lf, f2]) | (refine VCk.call (fun _ _ => v2 _) rfl ?_; simp (maxSteps := 3000000) (disch := omega) only [go_sem, ↓reduceIte, reduceCtorEq, pappend, plen, lf, f2])))
  refine hK _ _ ?_; clear hK K
  (repeat refine PW.seq ?_); refine PW.cond (t := _) rfl (fun h => ?_) (fun h => ?_)
  · cases h
  refine PW.skip ?_
  (repeat refine PW.seq ?_); refine PW.rg rfl fun K hK => ?_; simp (maxSteps := 3000000) (disch := omega) only [go_sem, ↓reduceIte, reduceCtorEq, pappend, plen, lf, f0, f1, f2, f3]; refine VCx.call (co _) rfl ?_; simp (maxSteps := 3000000) (disch := omega) only [go_sem, ↓reduceIte, reduceCtorEq, pappend, plen, lf, f0, f1, f2, f3]; refine hK _ _ ?_; clear hK K
  (repeat refine PW.seq ?_); refine PW.rg rfl fun K hK => ?_; simp (maxSteps := 3000000) (disch := omega) only [go_sem, ↓reduceIte, reduceCtorEq, pappend, plen, lf, f2]; refine hK _ _ ?_; clear hK K
  (repeat refine PW.seq ?_); refine PW.rg rfl fun K hK => ?_; simp (maxSteps := 3000000) (disch := omega) only [go_sem, ↓reduceIte, reduceCtorEq, pappend, plen]; refine hK _ _ ?_; clear hK K
  (repeat refine PW.seq ?_); refine PW.block (PW.loop ?_)
  have hsc3 : ∀ c, HSc H → HSc (H ++ [⟨50, 0, flc f⟩, ⟨71, 0, [.slice (ps.flatMap pac) ps.length false]⟩, ⟨4, 0, fs (cc l f.ex.length c)⟩]) := fun c => hscU 3 (by
    intro q hq t ht
    simp only [List.mem_cons, List.not_mem_nil, or_false] at hq
    rcases hq with rfl | rfl | rfl
    · exact flc_sc _ _ hf.ex _ ht
    · simp only [List.mem_singleton] at ht
      rw [ht]; exact sl_scoped (pal_sc _ _)
    · exact fs_scoped _ _ _ ht)
  suffices hl1 : ∀ (j c : Nat) (pc : Bool), j ≤ ps.length → PF l pc c (ps.drop j) f.ex.length → PL Try.prog _ _ [(3, .ptr H.length 0 0), (6, .slice (fs (rg f.ex.length (isS l))) f.ex.length false), (7, .msl (H.length + 2) 0 0 f.ex.length 1 true), (52, .slice (ps.flatMap pac) ps.length false), (53, .int .i64 (ps.length : Int)), (54, .int .i64 (j : Int))] (H ++ [⟨50, 0, flc f⟩, ⟨71, 0, [.slice (ps.flatMap pac) ps.length false]⟩, ⟨4, 0, fs (cc l f.ex.length c)⟩]) _ by
    refine PL.at [3, 6, 7, 52, 53, 54] (hl1 0 0 false (by omega) (by simpa using p2)) rfl ?_
    rw [cc_zero]
  intro j c pc hj hpf
  induction hd : ps.length - j using Nat.strongRecOn generalizing j c pc with
  | _ d ih =>
    refine PL.round ?_; (repeat refine PW.seq ?_); refine PW.rg rfl fun K hK => ?_; simp (maxSteps := 3000000) (disch := omega) only [go_sem, ↓reduceIte, reduceCtorEq, pappend, plen]; refine hK _ _ ?_; clear hK K
    (repeat refine PW.seq ?_); refine PW.cond (t := _) rfl (fun h => ?_) (fun h => ?_)
    rotate_left
    · have h4 : j = ps.length := by have := of_decide_eq_false h; omega
      subst h4
      rw [List.drop_length] at hpf
      cases hpf
      clear ih
      refine PW.exit ?_
      (repeat refine PW.seq ?_); refine PW.rg rfl fun K hK => ?_; simp (maxSteps := 3000000) (disch := omega) only [go_sem, ↓reduceIte, reduceCtorEq, pappend, plen, lf, f2]; refine hK _ _ ?_; clear hK K
      (repeat refine PW.seq ?_); refine PW.block (PW.loop ?_)
      suffices hl3 : ∀ i : Nat, i ≤ f.ex.length → PL Try.prog _ _ [(3, .ptr H.length 0 0), (6, .slice (fs (rg f.ex.length (isS l))) f.ex.length false), (7, .msl (H.length + 2) 0 0 f.ex.length 1 true), (77, .int .i64 (f.ex.length : Int)), (78, .int .i64 (i : Int))] (H ++ [⟨50, 0, flc f⟩, ⟨71, 0, [.slice (ps.flatMap pac) ps.length false]⟩, ⟨4, 0, fs (cc l f.ex.length f.ex.length)⟩]) _ by
        exact PL.at [3, 6, 7, 77, 78] (hl3 0 (by omega)) rfl rfl
      intro i hi
      induction hd3 : f.ex.length - i using Nat.strongRecOn generalizing i with
      | _ d3 ih3 =>
        refine PL.round ?_; (repeat refine PW.seq ?_); refine PW.rg rfl fun K hK => ?_; simp (maxSteps := 3000000) (disch := omega) only [go_sem, ↓reduceIte, reduceCtorEq, pappend, plen]; refine hK _ _ ?_; clear hK K
        (repeat refine PW.seq ?_); refine PW.cond (t := _) rfl (fun h => ?_) (fun h => ?_)
        rotate_left
        · refine PW.exit ?_
          (repeat refine PW.seq ?_); refine PW.rg rfl fun K hK => ?_; simp (maxSteps := 3000000) (disch := omega) only [go_sem, ↓reduceIte, reduceCtorEq, pappend, plen]; refine VCx.call (awake31 _) rfl ?_; simp (maxSteps := 3000000) (disch := omega) only [go_sem, ↓reduceIte, reduceCtorEq, pappend, plen]; refine hK _ _ ?_; clear hK K
          (refine PW.ret ⟨_, rfl, ?_⟩; first | refine .inl ⟨?_, rfl⟩ | refine Fin.base (.id' ?_ (.bool _)) | refine Fin.base (.id' ?_ (.int _ _)))
          rfl
        · have h4 : i < f.ex.length := by have := of_decide_eq_true h; omega
          have hgi := hrc i h4
          have hci := cc_all l f.ex.length i h4
          have nx : PL Try.prog _ _ [(3, .ptr H.length 0 0), (6, .slice (fs (rg f.ex.length (isS l))) f.ex.length false), (7, .msl (H.length + 2) 0 0 f.ex.length 1 true), (77, .int .i64 (f.ex.length : Int)), (78, .int .i64 ((i + 1 : Nat) : Int))] (H ++ [⟨50, 0, flc f⟩, ⟨71, 0, [.slice (ps.flatMap pac) ps.length false]⟩, ⟨4, 0, fs (cc l f.ex.length f.ex.length)⟩]) _ := ih3 (f.ex.length - (i + 1)) (by omega) (i + 1) (by omega) rfl
          refine PW.skip ?_; (repeat refine PW.seq ?_); refine PW.block ?_
          (repeat refine PW.seq ?_); refine PW.rg rfl fun K hK => ?_; simp (maxSteps := 3000000) (disch := omega) only [go_sem, ↓reduceIte, reduceCtorEq, pappend, plen]; refine hK _ _ ?_; clear hK K
          (repeat refine PW.seq ?_); refine PW.rg rfl fun K hK => ?_; simp (maxSteps := 3000000) (disch := omega) only [go_sem, ↓reduceIte, reduceCtorEq, pappend, plen, hgi, hl6]
          (repeat' ((first | refine VO_cond (fun h => ?_) (fun h => ?_) | refine VOd_cond (fun h => ?_) (fun h => ?_) | refine VOg_cond (fun h => ?_) (fun h => ?_) | refine VOh_cond (fun h => ?_) (fun h => ?_) | refine VOi_cond (fun h => ?_) (fun h => ?_) | refine And.intro (fun h => ?_) (fun h => ?_)) <;> (try simp only [Bool.not_eq_true', Bool.not_eq_false', decide_eq_true_eq, decide_eq_false_iff_not] at h) <;> simp (maxSteps := 3000000) (disch := omega) only [go_sem, ↓reduceIte, reduceCtorEq, pappend, plen, hgi, hl6, hci, hcl, h]))
          all_goals refine hK _ _ ?_; clear hK K
          all_goals
            (repeat refine PW.seq ?_); refine PW.cond (t := _) rfl (fun h => ?_) (fun h => ?_)
          · refine PW.exit ?_
            (repeat refine PW.seq ?_); refine PW.rg rfl fun K hK => ?_; simp (maxSteps := 3000000) (disch := omega) only [go_sem, ↓reduceIte, reduceCtorEq, pappend, plen]; refine hK _ _ ?_; clear hK K
            exact PL.at [3, 6, 7, 77, 78] nx rfl rfl
          · rename_i hgood
            have hcpd := h
            obtain ⟨x, hx⟩ : ∃ x, sh l i = some x := by
              unfold isS at hgood
              cases hh : sh l i with
              | none => rw [hh] at hgood; cases hgood
              | some x => exact ⟨x, rfl⟩
            obtain ⟨n1, n2, n3⟩ := Pl.nothing_more hfs.t3 hx hcpd
            have rb := fun K => refB_ok f hf l hfs i x hx K
            have rf := fun K => refF_ok f hf l hfs i x hx K
            have ty' := fun K => typ_ok f hf l hfs i x hx K
            have hbl := rfB_le l i
            have hfl : rfF l i < f.ex.length := by
              have := rfFF_lt l l.length i (by rw [hfs.len]; exact h4) (by omega)
              have hle := hfs.len
              change rfF l i < l.length at this
              omega
            have hcc := cc_all l f.ex.length
            refine PW.skip ?_
            (repeat refine PW.seq ?_); refine PW.draw mix (by kernel_rfl) fun K hK => ?_; simp (maxSteps := 3000000) (disch := omega) only [go_sem, ↓reduceIte, reduceCtorEq, pappend, plen, lf, tf, cf]
            (repeat' (first | ((first | refine VO_cond (fun h => ?_) (fun h => ?_) | refine VOd_cond (fun h => ?_) (fun h => ?_) | refine VOg_cond (fun h => ?_) (fun h => ?_) | refine VOh_cond (fun h => ?_) (fun h => ?_) | refine VOi_cond (fun h => ?_) (fun h => ?_) | refine And.intro (fun h => ?_) (fun h => ?_)) <;> (try simp only [Bool.not_eq_true', Bool.not_eq_false', decide_eq_true_eq, decide_eq_false_iff_not] at h) <;> simp (maxSteps := 3000000) (disch := omega) only [go_sem, ↓reduceIte, reduceCtorEq, pappend, plen, lf, tf, cf, h]) | (refine VCx.call (rb _) rfl ?_; simp (maxSteps := 3000000) (disch := omega) only [go_sem, ↓reduceIte, reduceCtorEq, pappend, plen, lf, tf, cf]) | (refine VCx.call (rf _) rfl ?_; simp (maxSteps := 3000000) (disch := omega) only [go_sem, ↓reduceIte, reduceCtorEq, pappend, plen, lf, tf, cf]) | (refine VCy.call (rb _) rfl ?_; simp (maxSteps := 3000000) (disch := omega) only [go_sem, ↓reduceIte, reduceCtorEq, pappend, plen, lf, tf, cf]) | (refine VCy.call (rf _) rfl ?_; simp (maxSteps := 3000000) (disch := omega) only [go_sem, ↓reduceIte, reduceCtorEq, pappend, plen, lf, tf, cf]) | (refine VCz.call (fun _ => rb _) rfl ?_; simp (maxSteps := 3000000) (disch := omega) only [go_sem, ↓reduceIte, reduceCtorEq, pappend, plen, lf, tf, cf]) | (refine VCz.call (fun _ => rf _) rfl ?_; simp (maxSteps := 3000000) (disch := omega) only [go_sem, ↓reduceIte, reduceCtorEq, pappend, plen, lf, tf, cf]) | (refine VCk.call (fun _ _ => rb _) rfl ?_; simp (maxSteps := 3000000) (disch := omega) only [go_sem, ↓reduceIte, reduceCtorEq, pappend, plen, lf, tf, cf]) | (refine VCk.call (fun _ _ => rf _) rfl ?_; simp (maxSteps := 3000000) (disch := omega) only [go_sem, ↓reduceIte, reduceCtorEq, pappend, plen, lf, tf, cf])))
            refine hK _ _ ?_; clear hK K
            (repeat refine PW.seq ?_); refine PW.rg rfl fun K hK => ?_; simp (maxSteps := 3000000) (disch := omega) only [go_sem, ↓reduceIte, reduceCtorEq, pappend, plen, lf, tf, cf]; refine VCx.call (ty' _) rfl ?_; simp (maxSteps := 3000000) (disch := omega) only [go_sem, ↓reduceIte, reduceCtorEq, pappend, plen, lf, tf, cf]; refine hK _ _ ?_; clear hK K
            (repeat refine PW.seq ?_); refine PW.block ?_
            (repeat refine PW.seq ?_); refine PW.rg rfl fun K hK => ?_; simp (maxSteps := 3000000) (disch := omega) only [go_sem, ↓reduceIte, reduceCtorEq, pappend, plen]; refine hK _ _ ?_; clear hK K
            (repeat refine PW.seq ?_); refine PW.cond (t := _) rfl (fun h => ?_) (fun h => ?_)
            · exfalso; exact n1 (by simpa using h)
            (repeat refine PW.seq ?_); refine PW.rg rfl fun K hK => ?_; simp (maxSteps := 3000000) (disch := omega) only [go_sem, ↓reduceIte, reduceCtorEq, pappend, plen]; refine hK _ _ ?_; clear hK K
            (repeat refine PW.seq ?_); refine PW.cond (t := _) rfl (fun h => ?_) (fun h => ?_)
            · have hk2 : x.k = 2 := by simpa using h
              by_cases hb : rfB l i = 0
              · have d1 : decide ((0 : Int) ≤ (rfB l i : Int) - 1) = false := decide_eq_false (by omega)
                (repeat refine PW.seq ?_); refine PW.rg rfl fun K hK => ?_; simp (maxSteps := 3000000) (disch := omega) only [go_sem, ↓reduceIte, reduceCtorEq, pappend, plen, d1]; refine hK _ _ ?_; clear hK K
                (repeat refine PW.seq ?_); refine PW.cond (t := _) rfl (fun h => ?_) (fun h => ?_)
                · cases h
                refine PW.skip ?_
                (repeat refine PW.seq ?_); refine PW.rg rfl fun K hK => ?_; simp (maxSteps := 3000000) (disch := omega) only [go_sem, ↓reduceIte, reduceCtorEq, pappend, plen]; refine hK _ _ ?_; clear hK K
                exact PL.at [3, 6, 7, 77, 78] nx rfl rfl
              · have d1 : decide ((0 : Int) ≤ (rfB l i : Int) - 1) = true := decide_eq_true (by omega)
                have e1 : (rfB l i : Int) - 1 = ((rfB l i - 1 : Nat) : Int) := by omega
                have hc1 := hcc (rfB l i - 1) (by omega)
                rw [n2 hk2 hb] at hc1
                rw [e1] at d1 ⊢
                (repeat refine PW.seq ?_); refine PW.rg rfl fun K hK => ?_; simp (maxSteps := 3000000) (disch := omega) only [go_sem, ↓reduceIte, reduceCtorEq, pappend, plen, d1, hc1, hcl]; refine hK _ _ ?_; clear hK K
                (repeat refine PW.seq ?_); refine PW.cond (t := _) rfl (fun h => ?_) (fun h => ?_)
                · cases h
                refine PW.skip ?_
                (repeat refine PW.seq ?_); refine PW.rg rfl fun K hK => ?_; simp (maxSteps := 3000000) (disch := omega) only [go_sem, ↓reduceIte, reduceCtorEq, pappend, plen]; refine hK _ _ ?_; clear hK K
                exact PL.at [3, 6, 7, 77, 78] nx rfl rfl
            (repeat refine PW.seq ?_); refine PW.rg rfl fun K hK => ?_; simp (maxSteps := 3000000) (disch := omega) only [go_sem, ↓reduceIte, reduceCtorEq, pappend, plen]; refine hK _ _ ?_; clear hK K
            (repeat refine PW.seq ?_); refine PW.cond (t := _) rfl (fun h => ?_) (fun h => ?_)
            · have hk3 : x.k = 3 := by simpa using h
              by_cases hb : rfB l i = 0
              · have d1 : decide ((0 : Int) ≤ (rfB l i : Int) - 1) = false := decide_eq_false (by omega)
                (repeat refine PW.seq ?_); refine PW.rg rfl fun K hK => ?_; simp (maxSteps := 3000000) (disch := omega) only [go_sem, ↓reduceIte, reduceCtorEq, pappend, plen, d1]; refine hK _ _ ?_; clear hK K
                (repeat refine PW.seq ?_); refine PW.cond (t := _) rfl (fun h => ?_) (fun h => ?_)
                · cases h
                refine PW.skip ?_
                (repeat refine PW.seq ?_); refine PW.rg rfl fun K hK => ?_; simp (maxSteps := 3000000) (disch := omega) only [go_sem, ↓reduceIte, reduceCtorEq, pappend, plen]; refine hK _ _ ?_; clear hK K
                exact PL.at [3, 6, 7, 77, 78] nx rfl rfl
              · have d1 : decide ((0 : Int) ≤ (rfB l i : Int) - 1) = true := decide_eq_true (by omega)
                have e1 : (rfB l i : Int) - 1 = ((rfB l i - 1 : Nat) : Int) := by omega
                have hc1 := hcc (rfB l i - 1) (by omega)
                rw [e1] at d1 ⊢
                by_cases hf0 : rfF l i = 0
                · have e2 : rfI l i = -1 := by unfold rfI; rw [if_pos hf0]
                  rw [e2]
                  (repeat refine PW.seq ?_); refine PW.rg rfl fun K hK => ?_; simp (maxSteps := 3000000) (disch := omega) only [go_sem, ↓reduceIte, reduceCtorEq, pappend, plen, d1]; refine hK _ _ ?_; clear hK K
                  (repeat refine PW.seq ?_); refine PW.cond (t := _) rfl (fun h => ?_) (fun h => ?_)
                  · cases h
                  refine PW.skip ?_
                  (repeat refine PW.seq ?_); refine PW.rg rfl fun K hK => ?_; simp (maxSteps := 3000000) (disch := omega) only [go_sem, ↓reduceIte, reduceCtorEq, pappend, plen]; refine hK _ _ ?_; clear hK K
                  exact PL.at [3, 6, 7, 77, 78] nx rfl rfl
                · have e2 : rfI l i = (rfF l i : Int) := by unfold rfI; rw [if_neg hf0]
                  have d2 : decide ((0 : Int) ≤ (rfF l i : Int)) = true := decide_eq_true (by omega)
                  have hc2 := hcc (rfF l i) hfl
                  have n3' := n3 hk3 hb hf0
                  rw [e2]
                  cases hb1 : cpd l (rfB l i - 1) with
                  | false =>
                    rw [hb1] at hc1
                    (repeat refine PW.seq ?_); refine PW.rg rfl fun K hK => ?_; simp (maxSteps := 3000000) (disch := omega) only [go_sem, ↓reduceIte, reduceCtorEq, pappend, plen, d1, d2, hc1, hcl]; refine hK _ _ ?_; clear hK K
                    (repeat refine PW.seq ?_); refine PW.cond (t := _) rfl (fun h => ?_) (fun h => ?_)
                    · cases h
                    refine PW.skip ?_
                    (repeat refine PW.seq ?_); refine PW.rg rfl fun K hK => ?_; simp (maxSteps := 3000000) (disch := omega) only [go_sem, ↓reduceIte, reduceCtorEq, pappend, plen]; refine hK _ _ ?_; clear hK K
                    exact PL.at [3, 6, 7, 77, 78] nx rfl rfl
                  | true =>
                    rw [hb1] at hc1
                    have hb2 : cpd l (rfF l i) = false := by
                      cases hh : cpd l (rfF l i) with
                      | false => rfl
                      | true => exact absurd ⟨hb1, hh⟩ n3'
                    rw [hb2] at hc2
                    (repeat refine PW.seq ?_); refine PW.rg rfl fun K hK => ?_; simp (maxSteps := 3000000) (disch := omega) only [go_sem, ↓reduceIte, reduceCtorEq, pappend, plen, d1, d2, hc1, hc2, hcl]; refine hK _ _ ?_; clear hK K
                    (repeat refine PW.seq ?_); refine PW.cond (t := _) rfl (fun h => ?_) (fun h => ?_)
                    · cases h
                    refine PW.skip ?_
                    (repeat refine PW.seq ?_); refine PW.rg rfl fun K hK => ?_; simp (maxSteps := 3000000) (disch := omega) only [go_sem, ↓reduceIte, reduceCtorEq, pappend, plen]; refine hK _ _ ?_; clear hK K
                    exact PL.at [3, 6, 7, 77, 78] nx rfl rfl
            · refine PW.skip ?_
              (repeat refine PW.seq ?_); refine PW.rg rfl fun K hK => ?_; simp (maxSteps := 3000000) (disch := omega) only [go_sem, ↓reduceIte, reduceCtorEq, pappend, plen]; refine hK _ _ ?_; clear hK K
              exact PL.at [3, 6, 7, 77, 78] nx rfl rfl
          · refine PW.exit ?_
            (repeat refine PW.seq ?_); refine PW.rg rfl fun K hK => ?_; simp (maxSteps := 3000000) (disch := omega) only [go_sem, ↓reduceIte, reduceCtorEq, pappend, plen]; refine hK _ _ ?_; clear hK K
            exact PL.at [3, 6, 7, 77, 78] nx rfl rfl
          · cases h
    · have h4 : j < ps.length := by have := of_decide_eq_true h; omega
      have hat' := hat j h4
      rw [drop_at ps j h4] at hpf
      obtain ⟨c', hpa, _, _, hrest⟩ := PF.at hpf
      generalize paAt ps j = p at *
      obtain ⟨cp, film, len, m, fr⟩ := p
      obtain ⟨q1, q2, q3, q4, q5⟩ := hpa
      dsimp only at q1 q2 q4 q5 hrest
      have hcn := hrest.le
      simp only [pac] at hat'
      have nxt := fun (F : Fr) (t : Nat) (e : cc l f.ex.length t = cc l f.ex.length c') (h3 : slot F 3 = .ptr H.length 0 0) (h6 : slot F 6 = .slice (fs (rg f.ex.length (isS l))) f.ex.length false) (h7 : slot F 7 = .msl (H.length + 2) 0 0 f.ex.length 1 true) (h52 : slot F 52 = .slice (ps.flatMap pac) ps.length false) (h53 : slot F 53 = .int .i64 (ps.length : Int)) (h54 : slot F 54 = .int .i64 ((j + 1 : Nat) : Int)) => PL.view (F := F) (Vs.trim (H := H ++ [⟨50, 0, flc f⟩, ⟨71, 0, [.slice (ps.flatMap pac) ps.length false]⟩, ⟨4, 0, fs (cc l f.ex.length t)⟩, ⟨77, 0, [.bool cp, .int .i64 film, .int .i64 len, .str m, .int .i64 fr]⟩]) (hsc3 t) (by simp) (List.append_assoc _ [_, _, _] [_]).symm (by
        rw [List.length_append]
        simp only [List.length_cons, List.length_nil]
        refine ⟨?_, ?_, ?_, ?_, ?_, ?_, trivial⟩
        · rw [h3]; exact .id (.ptr (by omega))
        · rw [h6]; exact .id (sl_scoped (fs_scoped _ _))
        · rw [h7]; exact .id (.msl (by omega))
        · rw [h52]; exact .id (sl_scoped (pal_sc _ _))
        · rw [h53]; exact .id (.int _ _)
        · rw [h54]; exact .id (.int _ _))) (e ▸ ih (ps.length - (j + 1)) (by omega) (j + 1) c' (!cp) (by omega) hrest rfl)
      refine PW.skip ?_; (repeat refine PW.seq ?_); refine PW.block ?_
      (repeat refine PW.seq ?_); refine PW.rg rfl fun K hK => ?_; simp (maxSteps := 3000000) (disch := omega) only [go_sem, ↓reduceIte, reduceCtorEq, pappend, plen, hat', hp5]; refine hK _ _ ?_; clear hK K
      (repeat refine PW.seq ?_); refine PW.rg rfl fun K hK => ?_; simp (maxSteps := 3000000) (disch := omega) only [go_sem, ↓reduceIte, reduceCtorEq, pappend, plen]; refine hK _ _ ?_; clear hK K
      (repeat refine PW.seq ?_); refine PW.block (PW.loop ?_)
      suffices hl2 : ∀ t : Nat, c + t ≤ c' → (cp = false → t = 0) → PL Try.prog _ _ [(3, .ptr H.length 0 0), (6, .slice (fs (rg f.ex.length (isS l))) f.ex.length false), (7, .msl (H.length + 2) 0 0 f.ex.length 1 true), (9, .ptr (H.length + 3) 0 0), (10, .int .i64 (t : Int)), (52, .slice (ps.flatMap pac) ps.length false), (53, .int .i64 (ps.length : Int)), (54, .int .i64 (j : Int))] (H ++ [⟨50, 0, flc f⟩, ⟨71, 0, [.slice (ps.flatMap pac) ps.length false]⟩, ⟨4, 0, fs (cc l f.ex.length (c + t))⟩, ⟨77, 0, [.bool cp, .int .i64 film, .int .i64 len, .str m, .int .i64 fr]⟩]) _ by
        exact PL.at [3, 6, 7, 9, 10, 52, 53, 54] (hl2 0 (by omega) (fun _ => rfl)) rfl rfl
      intro t ht ht0
      induction hd2 : c' - (c + t) using Nat.strongRecOn generalizing t with
      | _ d2 ih2 =>
        refine PL.round ?_
        (repeat refine PW.seq ?_); refine PW.rg rfl fun K hK => ?_; simp (maxSteps := 3000000) (disch := omega) only [go_sem, ↓reduceIte, reduceCtorEq, pappend, plen]; (repeat' ((first | refine VO_cond (fun h => ?_) (fun h => ?_) | refine VOd_cond (fun h => ?_) (fun h => ?_) | refine VOg_cond (fun h => ?_) (fun h => ?_) | refine VOh_cond (fun h => ?_) (fun h => ?_) | refine VOi_cond (fun h => ?_) (fun h => ?_) | refine And.intro (fun h => ?_) (fun h => ?_)) <;> (try simp only [Bool.not_eq_true', Bool.not_eq_false', decide_eq_true_eq, decide_eq_false_iff_not] at h) <;> simp (maxSteps := 3000000) (disch := omega) only [go_sem, ↓reduceIte, reduceCtorEq, pappend, plen, h]))
        all_goals refine hK _ _ ?_; clear hK K
        all_goals
          (repeat refine PW.seq ?_); refine PW.cond (t := _) rfl (fun h => ?_) (fun h => ?_)
        · rename_i htl
          have hcp := h
          obtain ⟨k1, _⟩ := q5 hcp (c + t) (by omega) (by omega)
          have hset := cc_set l f.ex.length (c + t) k1
          have e5 : film + (t : Int) = ((c + t : Nat) : Int) := by omega
          refine PW.skip ?_; (repeat refine PW.seq ?_); refine PW.block ?_
          (repeat refine PW.seq ?_); refine PW.rg rfl fun K hK => ?_; simp (maxSteps := 3000000) (disch := omega) only [go_sem, ↓reduceIte, reduceCtorEq, pappend, plen, e5, hcl, hset]; refine hK _ _ ?_; clear hK K
          (repeat refine PW.seq ?_); refine PW.rg rfl fun K hK => ?_; simp (maxSteps := 3000000) (disch := omega) only [go_sem, ↓reduceIte, reduceCtorEq, pappend, plen]; refine hK _ _ ?_; clear hK K
          exact PL.at [3, 6, 7, 9, 10, 52, 53, 54] (ih2 (c' - (c + (t + 1))) (by omega) (t + 1) (by omega) (fun hh => by rw [hcp] at hh; cases hh) rfl) rfl rfl
        · have hcp := h
          have ht' := ht0 hcp
          refine PW.exit ?_
          (repeat refine PW.seq ?_); refine PW.rg rfl fun K hK => ?_; simp (maxSteps := 3000000) (disch := omega) only [go_sem, ↓reduceIte, reduceCtorEq, pappend, plen]; refine hK _ _ ?_; clear hK K
          refine nxt _ (c + t) ?_ rfl rfl rfl rfl rfl rfl
          rw [ht', Nat.add_zero, show c' = c + (c' - c) by omega]
          exact (cc_coded (c' - c) (fun i i1 i2 => (q4 hcp).2.2 i i1 (by omega))).symm
        · cases h
        · rename_i htl
          refine PW.exit ?_
          (repeat refine PW.seq ?_); refine PW.rg rfl fun K hK => ?_; simp (maxSteps := 3000000) (disch := omega) only [go_sem, ↓reduceIte, reduceCtorEq, pappend, plen]; refine hK _ _ ?_; clear hK K
          refine nxt _ (c + t) ?_ rfl rfl rfl rfl rfl rfl
          rw [show c + t = c' by omega]

end Go.Proofs.Ytnjnikafhbholaa.Sc
