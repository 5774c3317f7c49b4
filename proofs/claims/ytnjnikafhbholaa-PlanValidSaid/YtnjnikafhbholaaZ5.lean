/-
  THE STATEMENT PlanValidSaid, PROVED (from the contract 'law_valid').
-/
import Derived.Test.YtnjnikafhbholaaZ4
namespace Go.Proofs.Ytnjnikafhbholaa.Sc
set_option linter.all false
set_option linter.unusedVariables false
set_option linter.unusedSimpArgs false
open Pm Ty Go.RowKit
open Pl (Pa Sh PF PaOk arr sh kd adj st en pts cpd jn ext shm shn tys rfB rfF rfFF)

theorem ixs_nm (L : List Int) (s : Sq) (a : Nat) : ∀ m, ∀ x ∈ (ixs L s a m).1, x.nm ≠ []
  | 0, x, hx => by simp [ixs] at hx
  | m + 1, x, hx => by
    simp only [ixs, List.mem_append, List.mem_singleton] at hx
    rcases hx with hx | rfl
    · exact ixs_nm L s a m x hx
    · simp [ix1, nm]
theorem flm_nm (L : List Int) : ∀ x ∈ (flm L).me, x.nm ≠ [] := ixs_nm L (flS L) 2 3
theorem first_J' {l : List (Option Sh)} (h3 : Pl.T3 l) {i : Nat} {m : List UInt8} {n k : Int} (hx : sh l (i + 0) = some ⟨m, n, k⟩) (hc : cpd l i = true) (hj : jn l i = false) : k = 1 := Pl.first_I h3 hx hc hj
theorem last_nc' {l : List (Option Sh)} (h3 : Pl.T3 l) {i : Nat} {m : List UInt8} {n k : Int} (hx : sh l i = some ⟨m, n, k⟩) (hc : cpd l i = true) (hj : jn l (i + 1) = false) : k ≠ 3 := Pl.last_nb h3 hx hc hj
/-- What is known of a film's frames. -/
structure FlS (f : Fl) (l : List (Option Sh)) : Prop where
  len : l.length = f.ex.length
  nb : NB l
  t3 : Pl.T3 l
  nm : ∀ i x, sh l i = some x → x.m ≠ []
  sh : ∀ i x, sh l i = some x → i < f.ex.length ∧ exAt f.ex i = ⟨1, x.m, x.n, 0, 0, 0, [], [], 0, true⟩ ∧ ∃ k, fnd f.me x.m f.me.length = some k ∧ k < f.me.length ∧ usb f.s f.top (ixAt f.me k) x.n = true ∧ x.k = (enAt (ixAt f.me k).en x.n.toNat).ty
theorem flS_ok (f : Fl) (hf : FlM f) (hn : ∀ x ∈ f.me, x.nm ≠ []) : FlS f (f.ex.map (shOf f.s f.top f.me)) := by
  have key : ∀ i x, sh (f.ex.map (shOf f.s f.top f.me)) i = some x → i < f.ex.length ∧ exAt f.ex i = ⟨1, x.m, x.n, 0, 0, 0, [], [], 0, true⟩ ∧ ∃ k, fnd f.me x.m f.me.length = some k ∧ k < f.me.length ∧ usb f.s f.top (ixAt f.me k) x.n = true ∧ x.k = (enAt (ixAt f.me k).en x.n.toNat).ty := fun i x hx => by
    obtain ⟨h1, h2⟩ := sh_ex hx
    obtain ⟨k, a1, a2, a3, rfl⟩ := shOf_ok h2
    refine ⟨h1, ?_, k, a1, (fnd_lt a1).1, a2, rfl⟩
    have he := hf.ex (exAt f.ex i) (getD_mem ex0 f.ex i h1)
    obtain ⟨b1, b2, b3, b4, b5, b6, b7, _⟩ := he.src a3
    generalize exAt f.ex i = e at *
    obtain ⟨op, m, fr, x3, x4, x5, x6, xs, n, g⟩ := e
    dsimp only at *
    rw [a3, b1, b2, b3, b4, b5, b6, b7]
  refine ⟨by rw [List.length_map], NB_map _ _ _ _ (fun k hk => by have := (hf.ix _ (getD_mem ix0 f.me k hk)).2; unfold ixAt; omega), fun i x hx => ?_, fun i x hx => ?_, key⟩
  · obtain ⟨_, _, k, _, k1, k2, k3⟩ := key i x hx
    have hmem : enAt (ixAt f.me k).en x.n.toNat ∈ (ixAt f.me k).en := getD_mem (⟨0, false, 0, false, false⟩ : En) (ixAt f.me k).en x.n.toNat (by have := usb_rng k2; omega)
    have := hf.ty (ixAt f.me k) (getD_mem ix0 f.me k k1) _ hmem
    rw [k3]
    omega
  · obtain ⟨_, _, k, a1, k1, _, _⟩ := key i x hx
    rw [← (fnd_lt a1).2]
    exact hn _ (getD_mem ix0 f.me k k1)


theorem ex_at1 {E : List Ex} {i : Nat} (h : i < E.length) : (E.flatMap exc)[i * 8 + 1]? = some (.str (exAt E i).m) ∧ (E.flatMap exc)[i * 8 + 2]? = some (.int .i64 (exAt E i).fr) ∧ (E.flatMap exc)[i * 8]? = some (.int .i64 (exAt E i).op) := by
  have hea := fm_at exc 8 (fun _ => rfl) ex0 E i h
  change List.take 8 (List.drop (i * 8) (E.flatMap exc)) = exc (exAt E i) at hea
  have h0 := get_of_take (j := 0) hea (by omega)
  rw [Nat.add_zero] at h0
  exact ⟨get_of_take (j := 1) hea (by omega), get_of_take (j := 2) hea (by omega), h0⟩
theorem ix_136 {M : List Ix} (hM : ∀ x ∈ M, SqL x.sq) {q : Nat} (hq : q < M.length) : (M.flatMap ixc)[q * 137 + 136]? = some (.slice ((ixAt M q).en.flatMap enc) (ixAt M q).en.length (ixAt M q).g) := by
  have hxa := fm_at' ixc 137 ix0 M q (fun x hx => ixc_len x (hM x hx)) hq
  change List.take 137 (List.drop (q * 137) (M.flatMap ixc)) = ixc (ixAt M q) at hxa
  have hx := hM _ (getD_mem ix0 M q hq)
  change SqL (ixAt M q).sq at hx
  rw [get_of_take (j := 136) hxa (by omega)]
  unfold ixc
  rw [List.getElem?_cons_succ, List.getElem?_append_right (by rw [sqc_len _ hx]; omega), sqc_len _ hx]
  rfl
theorem en_0 (l : List En) (i : Nat) (h : i < l.length) : (l.flatMap enc)[i * 5]? = some (.int .i64 (enAt l i).ty) := by
  have := get_of_take (j := 0) (fm_at enc 5 (fun _ => rfl) ⟨0, false, 0, false, false⟩ l i h) (by omega)
  rw [Nat.add_zero] at this
  rw [this]
  rfl
structure FlC (f : Fl) : Prop where
  lf : (flc f).length = 138
  cf : (flc f).all PV.cell = true
  tf : (flc f).take 138 = flc f
  f0 : (flc f).take 135 = sqc f.s
  f1 : (flc f)[135]? = some (.bool f.top)
  f2 : (flc f)[136]? = some (.slice (f.ex.flatMap exc) f.ex.length false)
  f3 : (flc f)[137]? = some (.slice (f.me.flatMap ixc) f.me.length false)
theorem flC_ok (f : Fl) (h : SqL f.s) : FlC f := by
  have lf := flc_len f h
  have ls := sqc_len f.s h
  refine ⟨lf, flc_c f, List.take_of_length_le (by omega), ?_, ?_, ?_, ?_⟩
  · unfold flc
    rw [← ls]; exact List.take_left
  · unfold flc; rw [List.getElem?_append_right (by omega), ls]; rfl
  · unfold flc; rw [List.getElem?_append_right (by omega), ls]; rfl
  · unfold flc; rw [List.getElem?_append_right (by omega), ls]; rfl

theorem typ_ok (f : Fl) (hf : FlM f) (l : List (Option Sh)) (hs : FlS f l) (i : Nat) (x : Sh) (hx : sh l i = some x) (H : Heap) : CallOk Try.prog 43 [.agg (flc f), .int .i64 (i : Int)] H (.int .i64 x.k) H := by
  obtain ⟨lf, cf, tf, f0, f1, f2, f3⟩ := flC_ok f hf.s
  obtain ⟨h1, h2, q, h3, h4, h5, h6⟩ := hs.sh i x hx
  have hnb := hs.nb i x hx
  have hM : ∀ x ∈ f.me, SqL x.sq := fun x hx => (hf.ix x hx).1
  have fo := fun K => find_ok f.me false x.m K hM (by have := hf.me; omega)
  rw [h3] at fo
  change ∀ K, CallOk _ _ _ K (.int .i64 (q : Int)) K at fo
  obtain ⟨g1, g2, _⟩ := ex_at1 h1
  rw [h2] at g1 g2
  have x136 := ix_136 hM h4
  have hr := usb_rng h5
  have he := en_0 (ixAt f.me q).en x.n.toNat (by omega)
  rw [← h6] at he
  have hE5 := fm_len enc 5 (fun _ => rfl) (ixAt f.me q).en
  have hlM := ixl_len f.me hM
  have c1 := exl_len f.ex
  have hfn := hf.n
  have hfm := hf.me
  dsimp only at g1 g2
  refine CallOk.body (F0 := [(0, .agg (flc f)), (1, .int .i64 (i : Int))]) Try.func43 rfl Try.ntmps43 Try.results43 rfl (by kernel_rfl) rfl ?_
  (repeat refine PW.seq ?_); refine PW.rg rfl fun K hK => ?_; simp (maxSteps := 3000000) (disch := omega) only [go_sem, ↓reduceIte, reduceCtorEq, pappend, plen, cf]; refine hK _ _ ?_; clear hK K
  (repeat refine PW.seq ?_); refine PW.draw mix (by kernel_rfl) fun K hK => ?_; simp (maxSteps := 3000000) (disch := omega) only [go_sem, ↓reduceIte, reduceCtorEq, pappend, plen, lf, f2, f3, g1, g2, c1]
  (repeat' (first | ((first | refine VO_cond (fun h => ?_) (fun h => ?_) | refine VOd_cond (fun h => ?_) (fun h => ?_) | refine VOg_cond (fun h => ?_) (fun h => ?_) | refine VOh_cond (fun h => ?_) (fun h => ?_) | refine VOi_cond (fun h => ?_) (fun h => ?_) | refine And.intro (fun h => ?_) (fun h => ?_)) <;> (try simp only [Bool.not_eq_true', Bool.not_eq_false', decide_eq_true_eq, decide_eq_false_iff_not] at h) <;> simp (maxSteps := 3000000) (disch := omega) only [go_sem, ↓reduceIte, reduceCtorEq, pappend, plen, lf, f2, f3, g1, g2, c1, x136, he, hE5, hlM, h]) | (refine VCx.call (fo _) rfl ?_; simp (maxSteps := 3000000) (disch := omega) only [go_sem, ↓reduceIte, reduceCtorEq, pappend, plen, lf, f2, f3, g1, g2, c1, x136, he, hE5, hlM]) | (refine VCy.call (fo _) rfl ?_; simp (maxSteps := 3000000) (disch := omega) only [go_sem, ↓reduceIte, reduceCtorEq, pappend, plen, lf, f2, f3, g1, g2, c1, x136, he, hE5, hlM]) | (refine VCz.call (fun _ => fo _) rfl ?_; simp (maxSteps := 3000000) (disch := omega) only [go_sem, ↓reduceIte, reduceCtorEq, pappend, plen, lf, f2, f3, g1, g2, c1, x136, he, hE5, hlM]) | (refine VCk.call (fun _ _ => fo _) rfl ?_; simp (maxSteps := 3000000) (disch := omega) only [go_sem, ↓reduceIte, reduceCtorEq, pappend, plen, lf, f2, f3, g1, g2, c1, x136, he, hE5, hlM])))
  refine hK _ _ ?_; clear hK K
  (refine PW.ret ⟨_, rfl, ?_⟩; first | refine .inl ⟨?_, rfl⟩ | refine Fin.base (.id' ?_ (.bool _)) | refine Fin.base (.id' ?_ (.int _ _)))
  rfl
/-- Which frames are candidates. -/
def isS (l : List (Option Sh)) (i : Nat) : Bool := (sh l i).isSome
set_option maxHeartbeats 2000000 in
theorem cand_ok (f : Fl) (hf : FlM f) (H : Heap) : CallOk Try.prog 41 [.agg (sqc f.s), .bool f.top, .slice (f.ex.flatMap exc) f.ex.length false, .slice (f.me.flatMap ixc) f.me.length false] H (.slice (fs (rg f.ex.length (isS (f.ex.map (shOf f.s f.top f.me))))) f.ex.length false) H := by
  have ls := sqc_len f.s hf.s
  have cs := sqc_c f.s
  have ts : (sqc f.s).take 135 = sqc f.s := List.take_of_length_le (by omega)
  have hM : ∀ x ∈ f.me, SqL x.sq := fun x hx => (hf.ix x hx).1
  have fo := fun K s => find_ok f.me false s K hM (by have := hf.me; omega)
  have hlM := ixl_len f.me hM
  have hxat := fun k => fm_at' ixc 137 ix0 f.me k (fun x hx => ixc_len x (hM x hx))
  change ∀ k, k < f.me.length → List.take 137 (List.drop (k * 137) (f.me.flatMap ixc)) = ixc (ixAt f.me k) at hxat
  have c1 := exl_len f.ex
  have hfn := hf.n
  have hfm := hf.me
  have hz : (List.replicate f.ex.length [PV.bool false]).flatten = fs (rg f.ex.length fun i => decide (i < 0) && isS (f.ex.map (shOf f.s f.top f.me)) i) := by
    rw [rg_ext f.ex.length (g' := fun _ => false) (fun i _ => by simp), rg_false]; rfl
  have hsh := sh_map f.s f.top f.me f.ex
  generalize hl : f.ex.map (shOf f.s f.top f.me) = l at *
  refine CallOk.body (F0 := [(0, .agg (sqc f.s)), (1, .bool f.top), (2, .slice (f.ex.flatMap exc) f.ex.length false), (3, .slice (f.me.flatMap ixc) f.me.length false)]) Try.func41 rfl Try.ntmps41 Try.results41 rfl (by kernel_rfl) rfl ?_
  (repeat refine PW.seq ?_); refine PW.rg rfl fun K hK => ?_; simp (maxSteps := 3000000) (disch := omega) only [go_sem, ↓reduceIte, reduceCtorEq, pappend, plen, cs]; refine hK _ _ ?_; clear hK K
  (repeat refine PW.seq ?_); refine PW.rg rfl fun K hK => ?_; simp (maxSteps := 3000000) (disch := omega) only [go_sem, ↓reduceIte, reduceCtorEq, pappend, plen]; refine hK _ _ ?_; clear hK K
  (repeat refine PW.seq ?_); refine PW.rg rfl fun K hK => ?_; simp (maxSteps := 3000000) (disch := omega) only [go_sem, ↓reduceIte, reduceCtorEq, pappend, plen]; refine hK _ _ ?_; clear hK K
  (repeat refine PW.seq ?_); refine PW.block (PW.loop ?_)
  suffices hl1 : ∀ j : Nat, j ≤ f.ex.length → PL Try.prog _ _ [(1, .bool f.top), (2, .slice (f.ex.flatMap exc) f.ex.length false), (3, .slice (f.me.flatMap ixc) f.me.length false), (4, .ptr H.length 0 0), (9, .msl (H.length + 1) 0 0 f.ex.length 1 true), (10, .int .i64 (j : Int))] (H ++ [⟨39, 0, sqc f.s⟩, ⟨4, 0, fs (rg f.ex.length fun i => decide (i < j) && isS l i)⟩]) _ by
    refine PL.at [1, 2, 3, 4, 9, 10] (hl1 0 (by omega)) rfl ?_
    rw [← hz]
  intro j hj
  induction hd : f.ex.length - j using Nat.strongRecOn generalizing j with
  | _ d ih =>
    have hl6 : (fs (rg f.ex.length fun i => decide (i < j) && isS l i)).length = f.ex.length := by rw [fs_len, rg_len]
    refine PL.round ?_; (repeat refine PW.seq ?_); refine PW.rg rfl fun K hK => ?_; simp (maxSteps := 3000000) (disch := omega) only [go_sem, ↓reduceIte, reduceCtorEq, pappend, plen]; refine hK _ _ ?_; clear hK K
    (repeat refine PW.seq ?_); refine PW.cond (t := _) rfl (fun h => ?_) (fun h => ?_)
    rotate_left
    · have h4 : j = f.ex.length := by have := of_decide_eq_false h; omega
      subst h4
      refine PW.exit ?_
      have e : fs (rg f.ex.length fun i => decide (i < f.ex.length) && isS l i) = fs (rg f.ex.length (isS l)) := by
        rw [rg_ext f.ex.length (fun i hi => by rw [decide_eq_true hi, Bool.true_and])]
      rw [e] at hl6 ⊢
      (repeat refine PW.seq ?_); refine PW.rg rfl fun K hK => ?_; simp (maxSteps := 3000000) (disch := omega) only [go_sem, ↓reduceIte, reduceCtorEq, pappend, plen]; refine hK _ _ ?_; clear hK K
      refine PW.ret ⟨_, rfl, ?_⟩
      exact Fin.base (Fz.mslC (e := 4) (xs := fs (rg f.ex.length (isS l))) (by omega) (hp1 _ _ _ _) (by rw [hl6]; omega) (FzC.refl (fs_scoped _ _)))
    · have h4 : j < f.ex.length := by have := of_decide_eq_true h; omega
      obtain ⟨g1, g2, g0⟩ := ex_at1 h4
      have hs := hsh j h4
      have hset := rg_set f.ex.length (fun i => decide (i < j) && isS l i) j (isS l j)
      have hext : rg f.ex.length (fun i => if i = j then isS l j else (decide (i < j) && isS l i)) = rg f.ex.length (fun i => decide (i < j + 1) && isS l i) := rg_ext f.ex.length (fun i hi => by
        by_cases e : i = j
        · rw [if_pos e, e, decide_eq_true (by omega : j < j + 1), Bool.true_and]
        · rw [if_neg e]
          by_cases e2 : i < j
          · rw [decide_eq_true e2, decide_eq_true (by omega : i < j + 1)]
          · rw [decide_eq_false e2, decide_eq_false (by omega : ¬ i < j + 1)])
      rw [hext] at hset
      generalize exAt f.ex j = e at *
      refine PW.skip ?_; (repeat refine PW.seq ?_); refine PW.block ?_
      (repeat refine PW.seq ?_); refine PW.rg rfl fun K hK => ?_; simp (maxSteps := 3000000) (disch := omega) only [go_sem, ↓reduceIte, reduceCtorEq, pappend, plen]; refine hK _ _ ?_; clear hK K
      (repeat refine PW.seq ?_); refine PW.rg rfl fun K hK => ?_; simp (maxSteps := 3000000) (disch := omega) only [go_sem, ↓reduceIte, reduceCtorEq, pappend, plen, g0, c1]; refine hK _ _ ?_; clear hK K
      generalize hk : (if e.op = 1 then fdI (fnd f.me e.m f.me.length) else -1) = k
      refine PW.meet [1, 2, 3, 4, 9, 10, 11] [(1, .bool f.top), (2, .slice (f.ex.flatMap exc) f.ex.length false), (3, .slice (f.me.flatMap ixc) f.me.length false), (4, .ptr H.length 0 0), (9, .msl (H.length + 1) 0 0 f.ex.length 1 true), (10, .int .i64 (j : Int)), (11, .int .i64 k)] (H ++ [⟨39, 0, sqc f.s⟩, ⟨4, 0, fs (rg f.ex.length fun i => decide (i < j) && isS l i)⟩]) ?_ ?_
      · (repeat refine PW.seq ?_); refine PW.cond (t := _) rfl (fun h => ?_) (fun h => ?_)
        · have ho : e.op = 1 := by simpa using h
          rw [if_pos ho] at hk
          subst hk
          (repeat refine PW.seq ?_); refine PW.rg rfl fun K hK => ?_; simp (maxSteps := 3000000) (disch := omega) only [go_sem, ↓reduceIte, reduceCtorEq, pappend, plen, g1, c1]; refine VCx.call (fo _ e.m) rfl ?_; simp (maxSteps := 3000000) (disch := omega) only [go_sem, ↓reduceIte, reduceCtorEq, pappend, plen, g1, c1]; refine hK _ _ ?_; clear hK K
          exact ⟨rfl, rfl⟩
        · have ho : e.op ≠ 1 := by simpa using h
          rw [if_neg ho] at hk
          subst hk
          exact PW.skip ⟨rfl, rfl⟩
      have hcase : (k = -1 ∧ isS l j = false) ∨ ∃ q : Nat, k = (q : Int) ∧ q < f.me.length ∧ isS l j = usb f.s f.top (ixAt f.me q) e.fr := by
        unfold isS
        rw [hs]
        unfold shOf
        by_cases ho : e.op = 1
        · rw [if_pos ho] at hk ⊢
          cases hf' : fnd f.me e.m f.me.length with
          | none => rw [hf'] at hk; exact .inl ⟨hk.symm, rfl⟩
          | some q =>
            rw [hf'] at hk
            refine .inr ⟨q, hk.symm, (fnd_lt hf').1, ?_⟩
            dsimp only
            cases usb f.s f.top (ixAt f.me q) e.fr <;> rfl
        · rw [if_neg ho] at hk ⊢
          exact .inl ⟨hk.symm, rfl⟩
      have nx : PL Try.prog _ _ [(1, .bool f.top), (2, .slice (f.ex.flatMap exc) f.ex.length false), (3, .slice (f.me.flatMap ixc) f.me.length false), (4, .ptr H.length 0 0), (9, .msl (H.length + 1) 0 0 f.ex.length 1 true), (10, .int .i64 ((j + 1 : Nat) : Int))] (H ++ [⟨39, 0, sqc f.s⟩, ⟨4, 0, fs (rg f.ex.length fun i => decide (i < j + 1) && isS l i)⟩]) _ := ih (f.ex.length - (j + 1)) (by omega) (j + 1) (by omega) rfl
      rcases hcase with ⟨rfl, hi⟩ | ⟨q, rfl, hq, hi⟩
      · rw [hi] at hset
        (repeat refine PW.seq ?_); refine PW.drawi [H.length + 1] [(9, [0]), (34, [0]), (52, [0])] [] [] mix (by kernel_rfl) (by simp <;> omega) fun K hK => ?_
        simp (maxSteps := 3000000) (disch := omega) only [go_sem, ↓reduceIte, reduceCtorEq, pappend, plen, hl6, hset]
        refine hK _ _ ?_; clear hK K
        (repeat refine PW.seq ?_); refine PW.rg rfl fun K hK => ?_; simp (maxSteps := 3000000) (disch := omega) only [go_sem, ↓reduceIte, reduceCtorEq, pappend, plen]; refine hK _ _ ?_; clear hK K
        exact PL.at [1, 2, 3, 4, 9, 10] nx rfl rfl
      · have hx := hf.ix _ (getD_mem ix0 f.me q hq)
        change SqL (ixAt f.me q).sq ∧ (ixAt f.me q).en.length ≤ 100 at hx
        have hxa := hxat q hq
        have uo := fun K => usb_ref f.s f.top (ixAt f.me q) e.fr K hf.s hx.1 (by omega)
        rw [← hi] at uo
        have lx := ixc_len _ hx.1
        have d1 : decide ((0 : Int) ≤ (q : Int)) = true := decide_eq_true (by omega)
        generalize ixAt f.me q = x at *
        (repeat refine PW.seq ?_); refine PW.drawi [H.length + 1] [(9, [0]), (34, [0]), (52, [0])] [] [] mix (by kernel_rfl) (by simp <;> omega) fun K hK => ?_
        simp (maxSteps := 3000000) (disch := omega) only [go_sem, ↓reduceIte, reduceCtorEq, pappend, plen, d1, hl6, hset, ls, ts, g2, c1, hxa, hlM, lx]
        refine VCj.read (fun _ _ => uo _) rfl ?_
        simp (maxSteps := 3000000) (disch := omega) only [go_sem, ↓reduceIte, reduceCtorEq, pappend, plen, hl6, hset]
        refine hK _ _ ?_; clear hK K
        (repeat refine PW.seq ?_); refine PW.rg rfl fun K hK => ?_; simp (maxSteps := 3000000) (disch := omega) only [go_sem, ↓reduceIte, reduceCtorEq, pappend, plen]; refine hK _ _ ?_; clear hK K
        exact PL.at [1, 2, 3, 4, 9, 10] nx rfl rfl

/-- The reference before a frame. -/
theorem rfB_step (l : List (Option Sh)) (k : Nat) : rfB l (k + 1) = if adj l k then (if kd (sh l k) = 3 then rfB l k else k + 1) else 0 := rfl
theorem rfFF_step (l : List (Option Sh)) (f i : Nat) : rfFF l (f + 1) i = if adj l i then (if kd (sh l (i + 1)) = 3 then rfFF l f (i + 1) else i + 1) else 0 := rfl

set_option maxHeartbeats 4000000 in
theorem refB_ok (f : Fl) (hf : FlM f) (l : List (Option Sh)) (hs : FlS f l) (i : Nat) (x : Sh) (hx : sh l i = some x) (H : Heap) : CallOk Try.prog 42 [.agg (flc f), .slice (fs (rg f.ex.length (isS l))) f.ex.length false, .int .i64 (i : Int), .int .i64 (-1)] H (.int .i64 ((rfB l i : Int) - 1)) H := by
  obtain ⟨lf, cf, tf, f0, f1, f2, f3⟩ := flC_ok f hf.s
  obtain ⟨i1, i2, _⟩ := hs.sh i x hx
  obtain ⟨gi1, gi2, _⟩ := ex_at1 i1
  rw [i2] at gi1 gi2
  dsimp only at gi1 gi2
  have hnb := hs.nb i x hx
  have hl6 : (fs (rg f.ex.length (isS l))).length = f.ex.length := by rw [fs_len, rg_len]
  have hrc := rg_cell f.ex.length (isS l)
  have c1 := exl_len f.ex
  have hfn := hf.n
  refine CallOk.body (F0 := [(0, .agg (flc f)), (1, .slice (fs (rg f.ex.length (isS l))) f.ex.length false), (2, .int .i64 (i : Int)), (3, .int .i64 (-1))]) Try.func42 rfl Try.ntmps42 Try.results42 rfl (by kernel_rfl) rfl ?_
  (repeat refine PW.seq ?_); refine PW.rg rfl fun K hK => ?_; simp (maxSteps := 3000000) (disch := omega) only [go_sem, ↓reduceIte, reduceCtorEq, pappend, plen, cf]; refine hK _ _ ?_; clear hK K
  (repeat refine PW.seq ?_); refine PW.rg rfl fun K hK => ?_; simp (maxSteps := 3000000) (disch := omega) only [go_sem, ↓reduceIte, reduceCtorEq, pappend, plen]; refine hK _ _ ?_; clear hK K
  (repeat refine PW.seq ?_); refine PW.block (PW.loop ?_)
  suffices hl1 : ∀ m : Nat, m ≤ i → rfB l i = rfB l m → (∃ k, sh l m = some ⟨x.m, x.n - ((i : Int) - (m : Int)), k⟩) → PL Try.prog _ _ [(1, .slice (fs (rg f.ex.length (isS l))) f.ex.length false), (2, .int .i64 (i : Int)), (3, .int .i64 (-1)), (4, .ptr H.length 0 0), (9, .int .i64 ((m : Int) - 1))] (H ++ [⟨50, 0, flc f⟩]) _ by
    refine PL.at [1, 2, 3, 4, 9] (hl1 i (Nat.le_refl _) rfl ⟨x.k, ?_⟩) ?_ rfl
    · rw [hx]
      obtain ⟨m, n, k⟩ := x
      simp
    · simp (maxSteps := 3000000) (disch := omega) only [go_sem, ↓reduceIte, reduceCtorEq, pappend, plen]
      simp only [Int.sub_eq_add_neg]
  intro m hm hB hshm
  induction m using Nat.strongRecOn with
  | _ m ih =>
    obtain ⟨km, hkm⟩ := hshm
    have hnbm := hs.nb _ _ hkm
    dsimp only at hnbm
    refine PL.round ?_
    cases m with
    | zero =>
      have d1 : decide ((0 : Int) ≤ ((0 : Nat) : Int) - 1) = false := decide_eq_false (by omega)
      (repeat refine PW.seq ?_); refine PW.rg rfl fun K hK => ?_; simp (maxSteps := 3000000) (disch := omega) only [go_sem, ↓reduceIte, reduceCtorEq, pappend, plen, d1]; refine hK _ _ ?_; clear hK K
      (repeat refine PW.seq ?_); refine PW.cond (t := _) rfl (fun h => ?_) (fun h => ?_)
      · cases h
      refine PW.exit ?_
      (repeat refine PW.seq ?_); refine PW.rg rfl fun K hK => ?_; simp (maxSteps := 3000000) (disch := omega) only [go_sem, ↓reduceIte, reduceCtorEq, pappend, plen]; refine hK _ _ ?_; clear hK K
      (refine PW.ret ⟨_, rfl, ?_⟩; first | refine .inl ⟨?_, rfl⟩ | refine Fin.base (.id' ?_ (.bool _)) | refine Fin.base (.id' ?_ (.int _ _)))
      rw [hB]
      rfl
    | succ k =>
      have e0 : ((k + 1 : Nat) : Int) - 1 = (k : Int) := by omega
      have d1 : decide ((0 : Int) ≤ (k : Int)) = true := decide_eq_true (by omega)
      have d2 : decide ((k : Int) < (f.ex.length : Int)) = true := decide_eq_true (by omega)
      obtain ⟨g1, g2, _⟩ := ex_at1 (E := f.ex) (i := k) (by omega)
      have hrk := hrc k (by omega)
      rw [rfB_step] at hB
      rw [e0]
      (repeat refine PW.seq ?_); refine PW.rg rfl fun K hK => ?_; simp (maxSteps := 3000000) (disch := omega) only [go_sem, ↓reduceIte, reduceCtorEq, pappend, plen, d1, d2, lf, f2]; refine hK _ _ ?_; clear hK K
      (repeat refine PW.seq ?_); refine PW.cond (t := _) rfl (fun h => ?_) (fun h => ?_)
      rotate_left
      · cases h
      refine PW.skip ?_; (repeat refine PW.seq ?_); refine PW.block ?_
      have hadj : adj l k = (isS l k && ((x.m == shm (sh l k)) && (x.n - ((i : Int) - ((k + 1 : Nat) : Int)) == shn (sh l k) + 1))) := by
        rw [adj_iff, hkm]; rfl
      cases hk : sh l k with
      | none =>
        have hik : isS l k = false := by unfold isS; rw [hk]; rfl
        rw [hik] at hrk hadj
        rw [hadj] at hB
        (repeat refine PW.seq ?_); refine PW.draw mix (by kernel_rfl) fun K hK => ?_; simp (maxSteps := 3000000) (disch := omega) only [go_sem, ↓reduceIte, reduceCtorEq, pappend, plen, hrk, hl6]; refine hK _ _ ?_; clear hK K
        (repeat refine PW.seq ?_); refine PW.cond (t := _) rfl (fun h => ?_) (fun h => ?_)
        rotate_left
        · cases h
        (repeat refine PW.seq ?_); refine PW.rg rfl fun K hK => ?_; simp (maxSteps := 3000000) (disch := omega) only [go_sem, ↓reduceIte, reduceCtorEq, pappend, plen]; refine hK _ _ ?_; clear hK K
        (refine PW.ret ⟨_, rfl, ?_⟩; first | refine .inl ⟨?_, rfl⟩ | refine Fin.base (.id' ?_ (.bool _)) | refine Fin.base (.id' ?_ (.int _ _)))
        rw [hB]
        rfl
      | some y =>
        have hik : isS l k = true := by unfold isS; rw [hk]; rfl
        obtain ⟨_, y2, _⟩ := hs.sh k y hk
        have hnby := hs.nb k y hk
        rw [y2] at g1 g2
        dsimp only at g1 g2
        rw [hik] at hrk hadj
        rw [hk] at hadj hB
        have to' := fun K => typ_ok f hf l hs k y hk K
        change adj l k = (true && ((x.m == y.m) && (x.n - ((i : Int) - ((k + 1 : Nat) : Int)) == y.n + 1))) at hadj
        change rfB l i = if adj l k = true then (if y.k = 3 then rfB l k else k + 1) else 0 at hB
        have e5 : x.n + ((k : Int) - (i : Int)) = x.n + (k : Int) - (i : Int) := by omega
        (repeat refine PW.seq ?_); refine PW.draw mix (by kernel_rfl) fun K hK => ?_; simp (maxSteps := 3000000) (disch := omega) only [go_sem, ↓reduceIte, reduceCtorEq, pappend, plen, hrk, hl6, lf, f2, g1, g2, gi1, gi2, c1]
        (repeat' ((first | refine VO_cond (fun h => ?_) (fun h => ?_) | refine VOd_cond (fun h => ?_) (fun h => ?_) | refine VOg_cond (fun h => ?_) (fun h => ?_) | refine VOh_cond (fun h => ?_) (fun h => ?_) | refine VOi_cond (fun h => ?_) (fun h => ?_) | refine And.intro (fun h => ?_) (fun h => ?_)) <;> (try simp only [Bool.not_eq_true', Bool.not_eq_false', decide_eq_true_eq, decide_eq_false_iff_not] at h) <;> simp (maxSteps := 3000000) (disch := omega) only [go_sem, ↓reduceIte, reduceCtorEq, pappend, plen, hrk, hl6, lf, f2, g1, g2, gi1, gi2, c1, h]))
        all_goals refine hK _ _ ?_; clear hK K
        · have hm1 : y.m = x.m := by simpa using h
          (repeat refine PW.seq ?_); refine PW.cond (t := _) rfl (fun h => ?_) (fun h => ?_)
          · have hy : y.n ≠ x.n + ((k : Int) - (i : Int)) := by simpa using h
            have ha : adj l k = false := by
              rw [hadj]
              simp only [Bool.true_and, Bool.and_eq_false_iff]
              right
              simp
              omega
            rw [if_neg (by rw [ha]; decide)] at hB
            (repeat refine PW.seq ?_); refine PW.rg rfl fun K hK => ?_; simp (maxSteps := 3000000) (disch := omega) only [go_sem, ↓reduceIte, reduceCtorEq, pappend, plen]; refine hK _ _ ?_; clear hK K
            (refine PW.ret ⟨_, rfl, ?_⟩; first | refine .inl ⟨?_, rfl⟩ | refine Fin.base (.id' ?_ (.bool _)) | refine Fin.base (.id' ?_ (.int _ _)))
            rw [hB]
            rfl
          · have hy : y.n = x.n + ((k : Int) - (i : Int)) := by simpa using h
            have ha : adj l k = true := by
              rw [hadj]
              simp only [Bool.true_and, Bool.and_eq_true, beq_iff_eq]
              exact ⟨hm1.symm, by omega⟩
            rw [if_pos ha] at hB
            refine PW.skip ?_
            (repeat refine PW.seq ?_); refine PW.rg rfl fun K hK => ?_; simp (maxSteps := 3000000) (disch := omega) only [go_sem, ↓reduceIte, reduceCtorEq, pappend, plen, lf, tf, cf]; refine VCx.call (to' _) rfl ?_; simp (maxSteps := 3000000) (disch := omega) only [go_sem, ↓reduceIte, reduceCtorEq, pappend, plen, lf, tf, cf]; refine hK _ _ ?_; clear hK K
            (repeat refine PW.seq ?_); refine PW.cond (t := _) rfl (fun h => ?_) (fun h => ?_)
            · have hy3 : y.k ≠ 3 := by simpa using h
              rw [if_neg hy3] at hB
              (repeat refine PW.seq ?_); refine PW.rg rfl fun K hK => ?_; simp (maxSteps := 3000000) (disch := omega) only [go_sem, ↓reduceIte, reduceCtorEq, pappend, plen]; refine hK _ _ ?_; clear hK K
              (refine PW.ret ⟨_, rfl, ?_⟩; first | refine .inl ⟨?_, rfl⟩ | refine Fin.base (.id' ?_ (.bool _)) | refine Fin.base (.id' ?_ (.int _ _)))
              rw [hB]
              show PV.int .i64 (k : Int) = _
              congr 1
              omega
            · have hy3 : y.k = 3 := by simpa using h
              rw [if_pos hy3] at hB
              refine PW.skip ?_
              (repeat refine PW.seq ?_); refine PW.rg rfl fun K hK => ?_; simp (maxSteps := 3000000) (disch := omega) only [go_sem, ↓reduceIte, reduceCtorEq, pappend, plen]; refine hK _ _ ?_; clear hK K
              refine PL.at [1, 2, 3, 4, 9] (ih k (by omega) (by omega) hB ⟨y.k, ?_⟩) ?_ rfl
              · rw [hk, ← hm1]
                obtain ⟨ym, yn, yk⟩ := y
                dsimp only at hy ⊢
                congr 2
                omega
              · simp (maxSteps := 3000000) (disch := omega) only [go_sem, ↓reduceIte, reduceCtorEq, pappend, plen]
                simp only [Int.sub_eq_add_neg]
        · have hm1 : y.m ≠ x.m := by simpa using h
          have ha : adj l k = false := by
            rw [hadj]
            simp only [Bool.true_and, Bool.and_eq_false_iff]
            left
            simp
            exact fun e => hm1 e.symm
          rw [if_neg (by rw [ha]; decide)] at hB
          (repeat refine PW.seq ?_); refine PW.cond (t := _) rfl (fun h => ?_) (fun h => ?_)
          rotate_left
          · cases h
          (repeat refine PW.seq ?_); refine PW.rg rfl fun K hK => ?_; simp (maxSteps := 3000000) (disch := omega) only [go_sem, ↓reduceIte, reduceCtorEq, pappend, plen]; refine hK _ _ ?_; clear hK K
          (refine PW.ret ⟨_, rfl, ?_⟩; first | refine .inl ⟨?_, rfl⟩ | refine Fin.base (.id' ?_ (.bool _)) | refine Fin.base (.id' ?_ (.int _ _)))
          rw [hB]
          rfl

def rfI (l : List (Option Sh)) (i : Nat) : Int := if rfF l i = 0 then -1 else (rfF l i : Int)
set_option maxHeartbeats 4000000 in
theorem refF_ok (f : Fl) (hf : FlM f) (l : List (Option Sh)) (hs : FlS f l) (i : Nat) (x : Sh) (hx : sh l i = some x) (H : Heap) : CallOk Try.prog 42 [.agg (flc f), .slice (fs (rg f.ex.length (isS l))) f.ex.length false, .int .i64 (i : Int), .int .i64 1] H (.int .i64 (rfI l i)) H := by
  obtain ⟨lf, cf, tf, f0, f1, f2, f3⟩ := flC_ok f hf.s
  obtain ⟨i1, i2, _⟩ := hs.sh i x hx
  obtain ⟨gi1, gi2, _⟩ := ex_at1 i1
  rw [i2] at gi1 gi2
  dsimp only at gi1 gi2
  have hnb := hs.nb i x hx
  have hl6 : (fs (rg f.ex.length (isS l))).length = f.ex.length := by rw [fs_len, rg_len]
  have hrc := rg_cell f.ex.length (isS l)
  have c1 := exl_len f.ex
  have hfn := hf.n
  have hll := hs.len
  refine CallOk.body (F0 := [(0, .agg (flc f)), (1, .slice (fs (rg f.ex.length (isS l))) f.ex.length false), (2, .int .i64 (i : Int)), (3, .int .i64 1)]) Try.func42 rfl Try.ntmps42 Try.results42 rfl (by kernel_rfl) rfl ?_
  (repeat refine PW.seq ?_); refine PW.rg rfl fun K hK => ?_; simp (maxSteps := 3000000) (disch := omega) only [go_sem, ↓reduceIte, reduceCtorEq, pappend, plen, cf]; refine hK _ _ ?_; clear hK K
  (repeat refine PW.seq ?_); refine PW.rg rfl fun K hK => ?_; simp (maxSteps := 3000000) (disch := omega) only [go_sem, ↓reduceIte, reduceCtorEq, pappend, plen]; refine hK _ _ ?_; clear hK K
  (repeat refine PW.seq ?_); refine PW.block (PW.loop ?_)
  suffices hl1 : ∀ e fu : Nat, i ≤ e → e < f.ex.length → fu + (e - i) = l.length → rfF l i = rfFF l fu e → (∃ k, sh l e = some ⟨x.m, x.n + ((e : Int) - (i : Int)), k⟩) → PL Try.prog _ _ [(1, .slice (fs (rg f.ex.length (isS l))) f.ex.length false), (2, .int .i64 (i : Int)), (3, .int .i64 1), (4, .ptr H.length 0 0), (9, .int .i64 ((e + 1 : Nat) : Int))] (H ++ [⟨50, 0, flc f⟩]) _ by
    refine PL.at [1, 2, 3, 4, 9] (hl1 i l.length (Nat.le_refl _) i1 (by omega) rfl ⟨x.k, ?_⟩) rfl rfl
    rw [hx]
    obtain ⟨m, n, k⟩ := x
    simp
  intro e fu he1 he2 hfu hF hshm
  induction hd : f.ex.length - e using Nat.strongRecOn generalizing e fu with
  | _ d ih =>
    obtain ⟨km, hkm⟩ := hshm
    have hnbm := hs.nb _ _ hkm
    dsimp only at hnbm
    obtain ⟨fu, rfl⟩ : ∃ g, fu = g + 1 := ⟨fu - 1, by omega⟩
    rw [rfFF_step] at hF
    have d1 : decide ((0 : Int) ≤ ((e + 1 : Nat) : Int)) = true := decide_eq_true (by omega)
    refine PL.round ?_
    by_cases hel : e + 1 < f.ex.length
    · have d2 : decide (((e + 1 : Nat) : Int) < (f.ex.length : Int)) = true := decide_eq_true (by omega)
      obtain ⟨g1, g2, _⟩ := ex_at1 (E := f.ex) (i := e + 1) (by omega)
      have hrk := hrc (e + 1) (by omega)
      (repeat refine PW.seq ?_); refine PW.rg rfl fun K hK => ?_; simp (maxSteps := 3000000) (disch := omega) only [go_sem, ↓reduceIte, reduceCtorEq, pappend, plen, d1, d2, lf, f2]; refine hK _ _ ?_; clear hK K
      (repeat refine PW.seq ?_); refine PW.cond (t := _) rfl (fun h => ?_) (fun h => ?_)
      rotate_left
      · cases h
      refine PW.skip ?_; (repeat refine PW.seq ?_); refine PW.block ?_
      have hadj : adj l e = (isS l (e + 1) && ((shm (sh l (e + 1)) == x.m) && (shn (sh l (e + 1)) == x.n + ((e : Int) - (i : Int)) + 1))) := by
        rw [adj_iff, hkm]; rfl
      cases hk : sh l (e + 1) with
      | none =>
        have hik : isS l (e + 1) = false := by unfold isS; rw [hk]; rfl
        rw [hik] at hrk hadj
        rw [hadj] at hF
        (repeat refine PW.seq ?_); refine PW.draw mix (by kernel_rfl) fun K hK => ?_; simp (maxSteps := 3000000) (disch := omega) only [go_sem, ↓reduceIte, reduceCtorEq, pappend, plen, hrk, hl6]; refine hK _ _ ?_; clear hK K
        (repeat refine PW.seq ?_); refine PW.cond (t := _) rfl (fun h => ?_) (fun h => ?_)
        rotate_left
        · cases h
        (repeat refine PW.seq ?_); refine PW.rg rfl fun K hK => ?_; simp (maxSteps := 3000000) (disch := omega) only [go_sem, ↓reduceIte, reduceCtorEq, pappend, plen]; refine hK _ _ ?_; clear hK K
        (refine PW.ret ⟨_, rfl, ?_⟩; first | refine .inl ⟨?_, rfl⟩ | refine Fin.base (.id' ?_ (.bool _)) | refine Fin.base (.id' ?_ (.int _ _)))
        unfold rfI
        rw [hF]
        rfl
      | some y =>
        have hik : isS l (e + 1) = true := by unfold isS; rw [hk]; rfl
        obtain ⟨_, y2, _⟩ := hs.sh (e + 1) y hk
        have hnby := hs.nb (e + 1) y hk
        rw [y2] at g1 g2
        dsimp only at g1 g2
        rw [hik] at hrk hadj
        rw [hk] at hadj hF
        have to' := fun K => typ_ok f hf l hs (e + 1) y hk K
        change adj l e = (true && ((y.m == x.m) && (y.n == x.n + ((e : Int) - (i : Int)) + 1))) at hadj
        change rfF l i = if adj l e = true then (if y.k = 3 then rfFF l fu (e + 1) else e + 1) else 0 at hF
        (repeat refine PW.seq ?_); refine PW.draw mix (by kernel_rfl) fun K hK => ?_; simp (maxSteps := 3000000) (disch := omega) only [go_sem, ↓reduceIte, reduceCtorEq, pappend, plen, hrk, hl6, lf, f2, g1, g2, gi1, gi2, c1]
        (repeat' ((first | refine VO_cond (fun h => ?_) (fun h => ?_) | refine VOd_cond (fun h => ?_) (fun h => ?_) | refine VOg_cond (fun h => ?_) (fun h => ?_) | refine VOh_cond (fun h => ?_) (fun h => ?_) | refine VOi_cond (fun h => ?_) (fun h => ?_) | refine And.intro (fun h => ?_) (fun h => ?_)) <;> (try simp only [Bool.not_eq_true', Bool.not_eq_false', decide_eq_true_eq, decide_eq_false_iff_not] at h) <;> simp (maxSteps := 3000000) (disch := omega) only [go_sem, ↓reduceIte, reduceCtorEq, pappend, plen, hrk, hl6, lf, f2, g1, g2, gi1, gi2, c1, h]))
        all_goals refine hK _ _ ?_; clear hK K
        · have hm1 : y.m = x.m := by simpa using h
          (repeat refine PW.seq ?_); refine PW.cond (t := _) rfl (fun h => ?_) (fun h => ?_)
          · have hy : y.n ≠ x.n + (((e + 1 : Nat) : Int) - (i : Int)) := by simpa using h
            have ha : adj l e = false := by
              rw [hadj]
              simp only [Bool.true_and, Bool.and_eq_false_iff]
              right
              simp
              omega
            rw [if_neg (by rw [ha]; decide)] at hF
            (repeat refine PW.seq ?_); refine PW.rg rfl fun K hK => ?_; simp (maxSteps := 3000000) (disch := omega) only [go_sem, ↓reduceIte, reduceCtorEq, pappend, plen]; refine hK _ _ ?_; clear hK K
            (refine PW.ret ⟨_, rfl, ?_⟩; first | refine .inl ⟨?_, rfl⟩ | refine Fin.base (.id' ?_ (.bool _)) | refine Fin.base (.id' ?_ (.int _ _)))
            unfold rfI
            rw [hF]
            rfl
          · have hy : y.n = x.n + (((e + 1 : Nat) : Int) - (i : Int)) := by simpa using h
            have ha : adj l e = true := by
              rw [hadj]
              simp only [Bool.true_and, Bool.and_eq_true, beq_iff_eq]
              exact ⟨hm1, by omega⟩
            rw [if_pos ha] at hF
            refine PW.skip ?_
            (repeat refine PW.seq ?_); refine PW.rg rfl fun K hK => ?_; simp (maxSteps := 3000000) (disch := omega) only [go_sem, ↓reduceIte, reduceCtorEq, pappend, plen, lf, tf, cf]; refine VCx.call (to' _) rfl ?_; simp (maxSteps := 3000000) (disch := omega) only [go_sem, ↓reduceIte, reduceCtorEq, pappend, plen, lf, tf, cf]; refine hK _ _ ?_; clear hK K
            (repeat refine PW.seq ?_); refine PW.cond (t := _) rfl (fun h => ?_) (fun h => ?_)
            · have hy3 : y.k ≠ 3 := by simpa using h
              rw [if_neg hy3] at hF
              (repeat refine PW.seq ?_); refine PW.rg rfl fun K hK => ?_; simp (maxSteps := 3000000) (disch := omega) only [go_sem, ↓reduceIte, reduceCtorEq, pappend, plen]; refine hK _ _ ?_; clear hK K
              (refine PW.ret ⟨_, rfl, ?_⟩; first | refine .inl ⟨?_, rfl⟩ | refine Fin.base (.id' ?_ (.bool _)) | refine Fin.base (.id' ?_ (.int _ _)))
              unfold rfI
              rw [hF, if_neg (by omega)]
              rfl
            · have hy3 : y.k = 3 := by simpa using h
              rw [if_pos hy3] at hF
              refine PW.skip ?_
              (repeat refine PW.seq ?_); refine PW.rg rfl fun K hK => ?_; simp (maxSteps := 3000000) (disch := omega) only [go_sem, ↓reduceIte, reduceCtorEq, pappend, plen]; refine hK _ _ ?_; clear hK K
              refine PL.at [1, 2, 3, 4, 9] (ih (f.ex.length - (e + 1)) (by omega) (e + 1) fu (by omega) (by omega) (by omega) hF ⟨y.k, ?_⟩ rfl) rfl rfl
              rw [hk, ← hm1]
              obtain ⟨ym, yn, yk⟩ := y
              dsimp only at hy ⊢
              congr 2
        · have hm1 : y.m ≠ x.m := by simpa using h
          have ha : adj l e = false := by
            rw [hadj]
            simp only [Bool.true_and, Bool.and_eq_false_iff]
            left
            simp
            exact hm1
          rw [if_neg (by rw [ha]; decide)] at hF
          (repeat refine PW.seq ?_); refine PW.cond (t := _) rfl (fun h => ?_) (fun h => ?_)
          rotate_left
          · cases h
          (repeat refine PW.seq ?_); refine PW.rg rfl fun K hK => ?_; simp (maxSteps := 3000000) (disch := omega) only [go_sem, ↓reduceIte, reduceCtorEq, pappend, plen]; refine hK _ _ ?_; clear hK K
          (refine PW.ret ⟨_, rfl, ?_⟩; first | refine .inl ⟨?_, rfl⟩ | refine Fin.base (.id' ?_ (.bool _)) | refine Fin.base (.id' ?_ (.int _ _)))
          unfold rfI
          rw [hF]
          rfl
    · have d2 : decide (((e + 1 : Nat) : Int) < (f.ex.length : Int)) = false := decide_eq_false (by omega)
      have ha : adj l e = false := by
        cases hh : adj l e with
        | false => rfl
        | true => have := Pl.adj_lt hh; omega
      rw [if_neg (by rw [ha]; decide)] at hF
      (repeat refine PW.seq ?_); refine PW.rg rfl fun K hK => ?_; simp (maxSteps := 3000000) (disch := omega) only [go_sem, ↓reduceIte, reduceCtorEq, pappend, plen, d1, d2, lf, f2]; refine hK _ _ ?_; clear hK K
      (repeat refine PW.seq ?_); refine PW.cond (t := _) rfl (fun h => ?_) (fun h => ?_)
      · cases h
      refine PW.exit ?_
      (repeat refine PW.seq ?_); refine PW.rg rfl fun K hK => ?_; simp (maxSteps := 3000000) (disch := omega) only [go_sem, ↓reduceIte, reduceCtorEq, pappend, plen]; refine hK _ _ ?_; clear hK K
      (refine PW.ret ⟨_, rfl, ?_⟩; first | refine .inl ⟨?_, rfl⟩ | refine Fin.base (.id' ?_ (.bool _)) | refine Fin.base (.id' ?_ (.int _ _)))
      unfold rfI
      rw [hF]
      rfl

theorem rfB_le (l : List (Option Sh)) : ∀ i, rfB l i ≤ i
  | 0 => Nat.le_refl _
  | i + 1 => by
    rw [rfB_step]
    have := rfB_le l i
    split
    · split <;> omega
    · omega
theorem rfFF_lt (l : List (Option Sh)) : ∀ f i, i < l.length → l.length ≤ i + f → rfFF l f i < l.length
  | 0, i, h1, h2 => by omega
  | f + 1, i, h1, h2 => by
    rw [rfFF_step]
    split
    · rename_i ha
      have := Pl.adj_lt ha
      split
      · exact rfFF_lt l f (i + 1) this (by omega)
      · exact this
    · omega
/-- The frames below c that are copied. -/
def cc (l : List (Option Sh)) (n c : Nat) : List Bool := rg n fun i => decide (i < c) && cpd l i
theorem cc_set (l : List (Option Sh)) (n c : Nat) (h : cpd l c = true) : (fs (cc l n c)).set c (.bool true) = fs (cc l n (c + 1)) := by
  unfold cc
  rw [rg_set]
  congr 1
  exact rg_ext n fun i hi => by
    by_cases e : i = c
    · rw [if_pos e, e, h, decide_eq_true (by omega : c < c + 1)]; rfl
    · rw [if_neg e]
      by_cases e2 : i < c
      · rw [decide_eq_true e2, decide_eq_true (by omega : i < c + 1)]
      · rw [decide_eq_false e2, decide_eq_false (by omega : ¬ i < c + 1)]
theorem cc_coded {l : List (Option Sh)} {n c : Nat} (d : Nat) (h : ∀ j, c ≤ j → j < c + d → cpd l j = false) : cc l n (c + d) = cc l n c := rg_ext n fun i hi => by
  by_cases e : i < c
  · rw [decide_eq_true e, decide_eq_true (by omega : i < c + d)]
  · by_cases e2 : i < c + d
    · rw [h i (by omega) e2]; simp
    · rw [decide_eq_false e, decide_eq_false e2]
theorem cc_all (l : List (Option Sh)) (n i : Nat) (h : i < n) : (fs (cc l n n))[i]? = some (.bool (cpd l i)) := by
  unfold cc
  rw [rg_cell n _ i h, decide_eq_true h, Bool.true_and]
theorem cc_len (l : List (Option Sh)) (n c : Nat) : (fs (cc l n c)).length = n := by unfold cc; rw [fs_len, rg_len]
theorem cc_zero (l : List (Option Sh)) (n : Nat) : fs (cc l n 0) = (List.replicate n [PV.bool false]).flatten := by
  unfold cc
  rw [rg_ext n (g' := fun _ => false) (fun i _ => by simp), rg_false]; rfl

set_option maxRecDepth 100000 in
set_option maxHeartbeats 8000000 in
theorem law_nothing (L : List Int) (g : Bool) (H : Heap) : CallOk Try.prog 9 [.slice (is L) L.length g] H (.bool true) H := by
  have mo := fun K => made_ok L g K
  have hf := flm_more L
  have hfs := flS_ok _ hf (flm_nm L)
  generalize flm L = f at *
  have hfc := flC_ok f hf.s
  obtain ⟨lf, cf, tf, f0, f1, f2, f3⟩ := hfc
  have s1 := fun n => exl_sc n f.ex hf.ex
  have hME : ∀ x ∈ f.me, SqL x.sq ∧ x.en.length ≤ 1000000 := fun x hx => ⟨(hf.ix x hx).1, by have := (hf.ix x hx).2; omega⟩
  have hme := hf.me
  have hn := hf.n
  have k2 := fun K => make_ok f.s f.top f.ex false f.me false K hf.ok hf.vs hME (by omega) (by omega) s1
  have p2 := (Pl.pts_ok (f.ex.map (shOf f.s f.top f.me)) f.ex.length).front
  have b2 := (pts_PB (f.ex.map (shOf f.s f.top f.me)) f.ex.length).2
  have co := cand_ok f hf
  generalize f.ex.map (shOf f.s f.top f.me) = l at *
  have hv := vld_pts hfs.nb hfs.nm p2
  generalize pts l f.ex.length = ps at *
  have v2 := fun K => valid_ref ps false (f.ex.length : Int) K (by omega) (by omega)
  change vld (f.ex.length : Int) 0 ps = true at hv
  rw [hv] at v2
  have hp5 := pal_len ps
  have hat := pal_at ps
  have hcl := cc_len l f.ex.length
  have hrc := rg_cell f.ex.length (isS l)
  have hl6 : (fs (rg f.ex.length (isS l))).length = f.ex.length := by rw [fs_len, rg_len]
  refine CallOk.body (F0 := [(0, .slice (is L) L.length g)]) Try.func9 rfl Try.ntmps9 Try.results9 rfl (by kernel_rfl) rfl ?_
  (repeat refine PW.seq ?_); refine PW.rg rfl fun K hK => ?_; simp (maxSteps := 3000000) (disch := omega) only [go_sem, ↓reduceIte, reduceCtorEq, pappend, plen]; refine hK _ _ ?_; clear hK K
  (repeat refine PW.seq ?_); refine PW.rg rfl fun K hK => ?_; simp (maxSteps := 3000000) (disch := omega) only [go_sem, ↓reduceIte, reduceCtorEq, pappend, plen, lf, cf]; refine VCx.call (mo _) rfl ?_; simp (maxSteps := 3000000) (disch := omega) only [go_sem, ↓reduceIte, reduceCtorEq, pappend, plen, lf, cf]; refine hK _ _ ?_; clear hK K
  (repeat refine PW.seq ?_); refine PW.rg rfl fun K hK => ?_; simp (maxSteps := 3000000) (disch := omega) only [go_sem, ↓reduceIte, reduceCtorEq, pappend, plen, lf, f0, f1, f2, f3]; refine VCx.call (k2 _) rfl ?_; simp (maxSteps := 3000000) (disch := omega) only [go_sem, ↓reduceIte, reduceCtorEq, pappend, plen, lf, f0, f1, f2, f3]; refine hK _ _ ?_; clear hK K
  (repeat refine PW.seq ?_); refine PW.rg rfl fun K hK => ?_; simp (maxSteps := 3000000) (disch := omega) only [go_sem, ↓reduceIte, reduceCtorEq, pappend, plen, lf, f2]
  (repeat' (first | ((first | refine VO_cond (fun h => ?_) (fun h => ?_) | refine VOd_cond (fun h => ?_) (fun h => ?_) | refine VOg_cond (fun h => ?_) (fun h => ?_) | refine VOh_cond (fun h => ?_) (fun h => ?_) | refine VOi_cond (fun h => ?_) (fun h => ?_) | refine And.intro (fun h => ?_) (fun h => ?_)) <;> (try simp only [Bool.not_eq_true', Bool.not_eq_false', decide_eq_true_eq, decide_eq_false_iff_not] at h) <;> simp (maxSteps := 3000000) (disch := omega) only [go_sem, ↓reduceIte, reduceCtorEq, pappend, plen, lf, f2, h]) | (refine VCx.call (v2 _) rfl ?_; simp (maxSteps := 3000000) (disch := omega) only [go_sem, ↓reduceIte, reduceCtorEq, pappend, plen, lf, f2]) | (refine VCy.call (v2 _) rfl ?_; simp (maxSteps := 3000000) (disch := omega) only [go_sem, ↓reduceIte, reduceCtorEq, pappend, plen, lf, f2]) | (refine VCz.call (fun _ => v2 _) rfl ?_; simp (maxSteps := 3000000) (disch := omega) only [go_sem, ↓reduceIte, reduceCtorEq, pappend, plen, lf, f2]) | (refine VCk.call (fun _ _ => v2 _) rfl ?_; simp (maxSteps := 3000000) (disch := omega) only [go_sem, ↓reduceIte, reduceCtorEq, pappend, plen, lf, f2])))
  refine hK _ _ ?_; clear hK K
  (repeat refine PW.seq ?_); refine PW.cond (t := _) rfl (fun h => ?_) (fun h => ?_)
  · cases h
  refine PW.skip ?_
  (repeat refine PW.seq ?_); refine PW.rg rfl fun K hK => ?_; simp (maxSteps := 3000000) (disch := omega) only [go_sem, ↓reduceIte, reduceCtorEq, pappend, plen, lf, f0, f1, f2, f3]; refine VCx.call (co _) rfl ?_; simp (maxSteps := 3000000) (disch := omega) only [go_sem, ↓reduceIte, reduceCtorEq, pappend, plen, lf, f0, f1, f2, f3]; refine hK _ _ ?_; clear hK K
  (repeat refine PW.seq ?_); refine PW.rg rfl fun K hK => ?_; simp (maxSteps := 3000000) (disch := omega) only [go_sem, ↓reduceIte, reduceCtorEq, pappend, plen, lf, f2]; refine hK _ _ ?_; clear hK K
  (repeat refine PW.seq ?_); refine PW.rg rfl fun K hK => ?_; simp (maxSteps := 3000000) (disch := omega) only [go_sem, ↓reduceIte, reduceCtorEq, pappend, plen]; refine hK _ _ ?_; clear hK K
  (repeat refine PW.seq ?_); refine PW.block (PW.loop ?_)
  have hsc3 : ∀ c, HSc H → HSc (H ++ [⟨50, 0, flc f⟩, ⟨71, 0, [.slice (ps.flatMap pac) ps.length false]⟩, ⟨4, 0, fs (cc l f.ex.length c)⟩]) := fun c => hscU 3 (by
    intro q hq t ht
    simp only [List.mem_cons, List.not_mem_nil, or_false] at hq
    rcases hq with rfl | rfl | rfl
    · exact flc_sc _ _ hf.ex _ ht
    · simp only [List.mem_singleton] at ht
      rw [ht]; exact sl_scoped (pal_sc _ _)
    · exact fs_scoped _ _ _ ht)
  suffices hl1 : ∀ (j c : Nat) (pc : Bool), j ≤ ps.length → PF l pc c (ps.drop j) f.ex.length → PL Try.prog _ _ [(3, .ptr H.length 0 0), (6, .slice (fs (rg f.ex.length (isS l))) f.ex.length false), (7, .msl (H.length + 2) 0 0 f.ex.length 1 true), (52, .slice (ps.flatMap pac) ps.length false), (53, .int .i64 (ps.length : Int)), (54, .int .i64 (j : Int))] (H ++ [⟨50, 0, flc f⟩, ⟨71, 0, [.slice (ps.flatMap pac) ps.length false]⟩, ⟨4, 0, fs (cc l f.ex.length c)⟩]) _ by
    refine PL.at [3, 6, 7, 52, 53, 54] (hl1 0 0 false (by omega) (by simpa using p2)) rfl ?_
    rw [cc_zero]
  intro j c pc hj hpf
  induction hd : ps.length - j using Nat.strongRecOn generalizing j c pc with
  | _ d ih =>
    refine PL.round ?_; (repeat refine PW.seq ?_); refine PW.rg rfl fun K hK => ?_; simp (maxSteps := 3000000) (disch := omega) only [go_sem, ↓reduceIte, reduceCtorEq, pappend, plen]; refine hK _ _ ?_; clear hK K
    (repeat refine PW.seq ?_); refine PW.cond (t := _) rfl (fun h => ?_) (fun h => ?_)
    rotate_left
    · have h4 : j = ps.length := by have := of_decide_eq_false h; omega
      subst h4
      rw [List.drop_length] at hpf
      cases hpf
      clear ih
      refine PW.exit ?_
      (repeat refine PW.seq ?_); refine PW.rg rfl fun K hK => ?_; simp (maxSteps := 3000000) (disch := omega) only [go_sem, ↓reduceIte, reduceCtorEq, pappend, plen, lf, f2]; refine hK _ _ ?_; clear hK K
      (repeat refine PW.seq ?_); refine PW.block (PW.loop ?_)
      suffices hl3 : ∀ i : Nat, i ≤ f.ex.length → PL Try.prog _ _ [(3, .ptr H.length 0 0), (6, .slice (fs (rg f.ex.length (isS l))) f.ex.length false), (7, .msl (H.length + 2) 0 0 f.ex.length 1 true), (77, .int .i64 (f.ex.length : Int)), (78, .int .i64 (i : Int))] (H ++ [⟨50, 0, flc f⟩, ⟨71, 0, [.slice (ps.flatMap pac) ps.length false]⟩, ⟨4, 0, fs (cc l f.ex.length f.ex.length)⟩]) _ by
        exact PL.at [3, 6, 7, 77, 78] (hl3 0 (by omega)) rfl rfl
      intro i hi
      induction hd3 : f.ex.length - i using Nat.strongRecOn generalizing i with
      | _ d3 ih3 =>
        refine PL.round ?_; (repeat refine PW.seq ?_); refine PW.rg rfl fun K hK => ?_; simp (maxSteps := 3000000) (disch := omega) only [go_sem, ↓reduceIte, reduceCtorEq, pappend, plen]; refine hK _ _ ?_; clear hK K
        (repeat refine PW.seq ?_); refine PW.cond (t := _) rfl (fun h => ?_) (fun h => ?_)
        rotate_left
        · refine PW.exit ?_
          (repeat refine PW.seq ?_); refine PW.rg rfl fun K hK => ?_; simp (maxSteps := 3000000) (disch := omega) only [go_sem, ↓reduceIte, reduceCtorEq, pappend, plen]; refine VCx.call (awake31 _) rfl ?_; simp (maxSteps := 3000000) (disch := omega) only [go_sem, ↓reduceIte, reduceCtorEq, pappend, plen]; refine hK _ _ ?_; clear hK K
          (refine PW.ret ⟨_, rfl, ?_⟩; first | refine .inl ⟨?_, rfl⟩ | refine Fin.base (.id' ?_ (.bool _)) | refine Fin.base (.id' ?_ (.int _ _)))
          rfl
        · have h4 : i < f.ex.length := by have := of_decide_eq_true h; omega
          have hgi := hrc i h4
          have hci := cc_all l f.ex.length i h4
          have nx : PL Try.prog _ _ [(3, .ptr H.length 0 0), (6, .slice (fs (rg f.ex.length (isS l))) f.ex.length false), (7, .msl (H.length + 2) 0 0 f.ex.length 1 true), (77, .int .i64 (f.ex.length : Int)), (78, .int .i64 ((i + 1 : Nat) : Int))] (H ++ [⟨50, 0, flc f⟩, ⟨71, 0, [.slice (ps.flatMap pac) ps.length false]⟩, ⟨4, 0, fs (cc l f.ex.length f.ex.length)⟩]) _ := ih3 (f.ex.length - (i + 1)) (by omega) (i + 1) (by omega) rfl
          refine PW.skip ?_; (repeat refine PW.seq ?_); refine PW.block ?_
          (repeat refine PW.seq ?_); refine PW.rg rfl fun K hK => ?_; simp (maxSteps := 3000000) (disch := omega) only [go_sem, ↓reduceIte, reduceCtorEq, pappend, plen]; refine hK _ _ ?_; clear hK K
          (repeat refine PW.seq ?_); refine PW.rg rfl fun K hK => ?_; simp (maxSteps := 3000000) (disch := omega) only [go_sem, ↓reduceIte, reduceCtorEq, pappend, plen, hgi, hl6]
          (repeat' ((first | refine VO_cond (fun h => ?_) (fun h => ?_) | refine VOd_cond (fun h => ?_) (fun h => ?_) | refine VOg_cond (fun h => ?_) (fun h => ?_) | refine VOh_cond (fun h => ?_) (fun h => ?_) | refine VOi_cond (fun h => ?_) (fun h => ?_) | refine And.intro (fun h => ?_) (fun h => ?_)) <;> (try simp only [Bool.not_eq_true', Bool.not_eq_false', decide_eq_true_eq, decide_eq_false_iff_not] at h) <;> simp (maxSteps := 3000000) (disch := omega) only [go_sem, ↓reduceIte, reduceCtorEq, pappend, plen, hgi, hl6, hci, hcl, h]))
          all_goals refine hK _ _ ?_; clear hK K
          all_goals
            (repeat refine PW.seq ?_); refine PW.cond (t := _) rfl (fun h => ?_) (fun h => ?_)
          · refine PW.exit ?_
            (repeat refine PW.seq ?_); refine PW.rg rfl fun K hK => ?_; simp (maxSteps := 3000000) (disch := omega) only [go_sem, ↓reduceIte, reduceCtorEq, pappend, plen]; refine hK _ _ ?_; clear hK K
            exact PL.at [3, 6, 7, 77, 78] nx rfl rfl
          · rename_i hgood
            have hcpd := h
            obtain ⟨x, hx⟩ : ∃ x, sh l i = some x := by
              unfold isS at hgood
              cases hh : sh l i with
              | none => rw [hh] at hgood; cases hgood
              | some x => exact ⟨x, rfl⟩
            obtain ⟨n1, n2, n3⟩ := Pl.nothing_more hfs.t3 hx hcpd
            have rb := fun K => refB_ok f hf l hfs i x hx K
            have rf := fun K => refF_ok f hf l hfs i x hx K
            have ty' := fun K => typ_ok f hf l hfs i x hx K
            have hbl := rfB_le l i
            have hfl : rfF l i < f.ex.length := by
              have := rfFF_lt l l.length i (by rw [hfs.len]; exact h4) (by omega)
              have hle := hfs.len
              change rfF l i < l.length at this
              omega
            have hcc := cc_all l f.ex.length
            refine PW.skip ?_
            (repeat refine PW.seq ?_); refine PW.draw mix (by kernel_rfl) fun K hK => ?_; simp (maxSteps := 3000000) (disch := omega) only [go_sem, ↓reduceIte, reduceCtorEq, pappend, plen, lf, tf, cf]
            (repeat' (first | ((first | refine VO_cond (fun h => ?_) (fun h => ?_) | refine VOd_cond (fun h => ?_) (fun h => ?_) | refine VOg_cond (fun h => ?_) (fun h => ?_) | refine VOh_cond (fun h => ?_) (fun h => ?_) | refine VOi_cond (fun h => ?_) (fun h => ?_) | refine And.intro (fun h => ?_) (fun h => ?_)) <;> (try simp only [Bool.not_eq_true', Bool.not_eq_false', decide_eq_true_eq, decide_eq_false_iff_not] at h) <;> simp (maxSteps := 3000000) (disch := omega) only [go_sem, ↓reduceIte, reduceCtorEq, pappend, plen, lf, tf, cf, h]) | (refine VCx.call (rb _) rfl ?_; simp (maxSteps := 3000000) (disch := omega) only [go_sem, ↓reduceIte, reduceCtorEq, pappend, plen, lf, tf, cf]) | (refine VCx.call (rf _) rfl ?_; simp (maxSteps := 3000000) (disch := omega) only [go_sem, ↓reduceIte, reduceCtorEq, pappend, plen, lf, tf, cf]) | (refine VCy.call (rb _) rfl ?_; simp (maxSteps := 3000000) (disch := omega) only [go_sem, ↓reduceIte, reduceCtorEq, pappend, plen, lf, tf, cf]) | (refine VCy.call (rf _) rfl ?_; simp (maxSteps := 3000000) (disch := omega) only [go_sem, ↓reduceIte, reduceCtorEq, pappend, plen, lf, tf, cf]) | (refine VCz.call (fun _ => rb _) rfl ?_; simp (maxSteps := 3000000) (disch := omega) only [go_sem, ↓reduceIte, reduceCtorEq, pappend, plen, lf, tf, cf]) | (refine VCz.call (fun _ => rf _) rfl ?_; simp (maxSteps := 3000000) (disch := omega) only [go_sem, ↓reduceIte, reduceCtorEq, pappend, plen, lf, tf, cf]) | (refine VCk.call (fun _ _ => rb _) rfl ?_; simp (maxSteps := 3000000) (disch := omega) only [go_sem, ↓reduceIte, reduceCtorEq, pappend, plen, lf, tf, cf]) | (refine VCk.call (fun _ _ => rf _) rfl ?_; simp (maxSteps := 3000000) (disch := omega) only [go_sem, ↓reduceIte, reduceCtorEq, pappend, plen, lf, tf, cf])))
            refine hK _ _ ?_; clear hK K
            (repeat refine PW.seq ?_); refine PW.rg rfl fun K hK => ?_; simp (maxSteps := 3000000) (disch := omega) only [go_sem, ↓reduceIte, reduceCtorEq, pappend, plen, lf, tf, cf]; refine VCx.call (ty' _) rfl ?_; simp (maxSteps := 3000000) (disch := omega) only [go_sem, ↓reduceIte, reduceCtorEq, pappend, plen, lf, tf, cf]; refine hK _ _ ?_; clear hK K
            (repeat refine PW.seq ?_); refine PW.block ?_
            (repeat refine PW.seq ?_); refine PW.rg rfl fun K hK => ?_; simp (maxSteps := 3000000) (disch := omega) only [go_sem, ↓reduceIte, reduceCtorEq, pappend, plen]; refine hK _ _ ?_; clear hK K
            (repeat refine PW.seq ?_); refine PW.cond (t := _) rfl (fun h => ?_) (fun h => ?_)
            · exfalso; exact n1 (by simpa using h)
            (repeat refine PW.seq ?_); refine PW.rg rfl fun K hK => ?_; simp (maxSteps := 3000000) (disch := omega) only [go_sem, ↓reduceIte, reduceCtorEq, pappend, plen]; refine hK _ _ ?_; clear hK K
            (repeat refine PW.seq ?_); refine PW.cond (t := _) rfl (fun h => ?_) (fun h => ?_)
            · have hk2 : x.k = 2 := by simpa using h
              by_cases hb : rfB l i = 0
              · have d1 : decide ((0 : Int) ≤ (rfB l i : Int) - 1) = false := decide_eq_false (by omega)
                (repeat refine PW.seq ?_); refine PW.rg rfl fun K hK => ?_; simp (maxSteps := 3000000) (disch := omega) only [go_sem, ↓reduceIte, reduceCtorEq, pappend, plen, d1]; refine hK _ _ ?_; clear hK K
                (repeat refine PW.seq ?_); refine PW.cond (t := _) rfl (fun h => ?_) (fun h => ?_)
                · cases h
                refine PW.skip ?_
                (repeat refine PW.seq ?_); refine PW.rg rfl fun K hK => ?_; simp (maxSteps := 3000000) (disch := omega) only [go_sem, ↓reduceIte, reduceCtorEq, pappend, plen]; refine hK _ _ ?_; clear hK K
                exact PL.at [3, 6, 7, 77, 78] nx rfl rfl
              · have d1 : decide ((0 : Int) ≤ (rfB l i : Int) - 1) = true := decide_eq_true (by omega)
                have e1 : (rfB l i : Int) - 1 = ((rfB l i - 1 : Nat) : Int) := by omega
                have hc1 := hcc (rfB l i - 1) (by omega)
                rw [n2 hk2 hb] at hc1
                rw [e1] at d1 ⊢
                (repeat refine PW.seq ?_); refine PW.rg rfl fun K hK => ?_; simp (maxSteps := 3000000) (disch := omega) only [go_sem, ↓reduceIte, reduceCtorEq, pappend, plen, d1, hc1, hcl]; refine hK _ _ ?_; clear hK K
                (repeat refine PW.seq ?_); refine PW.cond (t := _) rfl (fun h => ?_) (fun h => ?_)
                · cases h
                refine PW.skip ?_
                (repeat refine PW.seq ?_); refine PW.rg rfl fun K hK => ?_; simp (maxSteps := 3000000) (disch := omega) only [go_sem, ↓reduceIte, reduceCtorEq, pappend, plen]; refine hK _ _ ?_; clear hK K
                exact PL.at [3, 6, 7, 77, 78] nx rfl rfl
            (repeat refine PW.seq ?_); refine PW.rg rfl fun K hK => ?_; simp (maxSteps := 3000000) (disch := omega) only [go_sem, ↓reduceIte, reduceCtorEq, pappend, plen]; refine hK _ _ ?_; clear hK K
            (repeat refine PW.seq ?_); refine PW.cond (t := _) rfl (fun h => ?_) (fun h => ?_)
            · have hk3 : x.k = 3 := by simpa using h
              by_cases hb : rfB l i = 0
              · have d1 : decide ((0 : Int) ≤ (rfB l i : Int) - 1) = false := decide_eq_false (by omega)
                (repeat refine PW.seq ?_); refine PW.rg rfl fun K hK => ?_; simp (maxSteps := 3000000) (disch := omega) only [go_sem, ↓reduceIte, reduceCtorEq, pappend, plen, d1]; refine hK _ _ ?_; clear hK K
                (repeat refine PW.seq ?_); refine PW.cond (t := _) rfl (fun h => ?_) (fun h => ?_)
                · cases h
                refine PW.skip ?_
                (repeat refine PW.seq ?_); refine PW.rg rfl fun K hK => ?_; simp (maxSteps := 3000000) (disch := omega) only [go_sem, ↓reduceIte, reduceCtorEq, pappend, plen]; refine hK _ _ ?_; clear hK K
                exact PL.at [3, 6, 7, 77, 78] nx rfl rfl
              · have d1 : decide ((0 : Int) ≤ (rfB l i : Int) - 1) = true := decide_eq_true (by omega)
                have e1 : (rfB l i : Int) - 1 = ((rfB l i - 1 : Nat) : Int) := by omega
                have hc1 := hcc (rfB l i - 1) (by omega)
                rw [e1] at d1 ⊢
                by_cases hf0 : rfF l i = 0
                · have e2 : rfI l i = -1 := by unfold rfI; rw [if_pos hf0]
                  rw [e2]
                  (repeat refine PW.seq ?_); refine PW.rg rfl fun K hK => ?_; simp (maxSteps := 3000000) (disch := omega) only [go_sem, ↓reduceIte, reduceCtorEq, pappend, plen, d1]; refine hK _ _ ?_; clear hK K
                  (repeat refine PW.seq ?_); refine PW.cond (t := _) rfl (fun h => ?_) (fun h => ?_)
                  · cases h
                  refine PW.skip ?_
                  (repeat refine PW.seq ?_); refine PW.rg rfl fun K hK => ?_; simp (maxSteps := 3000000) (disch := omega) only [go_sem, ↓reduceIte, reduceCtorEq, pappend, plen]; refine hK _ _ ?_; clear hK K
                  exact PL.at [3, 6, 7, 77, 78] nx rfl rfl
                · have e2 : rfI l i = (rfF l i : Int) := by unfold rfI; rw [if_neg hf0]
                  have d2 : decide ((0 : Int) ≤ (rfF l i : Int)) = true := decide_eq_true (by omega)
                  have hc2 := hcc (rfF l i) hfl
                  have n3' := n3 hk3 hb hf0
                  rw [e2]
                  cases hb1 : cpd l (rfB l i - 1) with
                  | false =>
                    rw [hb1] at hc1
                    (repeat refine PW.seq ?_); refine PW.rg rfl fun K hK => ?_; simp (maxSteps := 3000000) (disch := omega) only [go_sem, ↓reduceIte, reduceCtorEq, pappend, plen, d1, d2, hc1, hcl]; refine hK _ _ ?_; clear hK K
                    (repeat refine PW.seq ?_); refine PW.cond (t := _) rfl (fun h => ?_) (fun h => ?_)
                    · cases h
                    refine PW.skip ?_
                    (repeat refine PW.seq ?_); refine PW.rg rfl fun K hK => ?_; simp (maxSteps := 3000000) (disch := omega) only [go_sem, ↓reduceIte, reduceCtorEq, pappend, plen]; refine hK _ _ ?_; clear hK K
                    exact PL.at [3, 6, 7, 77, 78] nx rfl rfl
                  | true =>
                    rw [hb1] at hc1
                    have hb2 : cpd l (rfF l i) = false := by
                      cases hh : cpd l (rfF l i) with
                      | false => rfl
                      | true => exact absurd ⟨hb1, hh⟩ n3'
                    rw [hb2] at hc2
                    (repeat refine PW.seq ?_); refine PW.rg rfl fun K hK => ?_; simp (maxSteps := 3000000) (disch := omega) only [go_sem, ↓reduceIte, reduceCtorEq, pappend, plen, d1, d2, hc1, hc2, hcl]; refine hK _ _ ?_; clear hK K
                    (repeat refine PW.seq ?_); refine PW.cond (t := _) rfl (fun h => ?_) (fun h => ?_)
                    · cases h
                    refine PW.skip ?_
                    (repeat refine PW.seq ?_); refine PW.rg rfl fun K hK => ?_; simp (maxSteps := 3000000) (disch := omega) only [go_sem, ↓reduceIte, reduceCtorEq, pappend, plen]; refine hK _ _ ?_; clear hK K
                    exact PL.at [3, 6, 7, 77, 78] nx rfl rfl
            · refine PW.skip ?_
              (repeat refine PW.seq ?_); refine PW.rg rfl fun K hK => ?_; simp (maxSteps := 3000000) (disch := omega) only [go_sem, ↓reduceIte, reduceCtorEq, pappend, plen]; refine hK _ _ ?_; clear hK K
              exact PL.at [3, 6, 7, 77, 78] nx rfl rfl
          · refine PW.exit ?_
            (repeat refine PW.seq ?_); refine PW.rg rfl fun K hK => ?_; simp (maxSteps := 3000000) (disch := omega) only [go_sem, ↓reduceIte, reduceCtorEq, pappend, plen]; refine hK _ _ ?_; clear hK K
            exact PL.at [3, 6, 7, 77, 78] nx rfl rfl
          · cases h
    · have h4 : j < ps.length := by have := of_decide_eq_true h; omega
      have hat' := hat j h4
      rw [drop_at ps j h4] at hpf
      obtain ⟨c', hpa, _, _, hrest⟩ := PF.at hpf
      generalize paAt ps j = p at *
      obtain ⟨cp, film, len, m, fr⟩ := p
      obtain ⟨q1, q2, q3, q4, q5⟩ := hpa
      dsimp only at q1 q2 q4 q5 hrest
      have hcn := hrest.le
      simp only [pac] at hat'
      have nxt := fun (F : Fr) (t : Nat) (e : cc l f.ex.length t = cc l f.ex.length c') (h3 : slot F 3 = .ptr H.length 0 0) (h6 : slot F 6 = .slice (fs (rg f.ex.length (isS l))) f.ex.length false) (h7 : slot F 7 = .msl (H.length + 2) 0 0 f.ex.length 1 true) (h52 : slot F 52 = .slice (ps.flatMap pac) ps.length false) (h53 : slot F 53 = .int .i64 (ps.length : Int)) (h54 : slot F 54 = .int .i64 ((j + 1 : Nat) : Int)) => PL.view (F := F) (Vs.trim (H := H ++ [⟨50, 0, flc f⟩, ⟨71, 0, [.slice (ps.flatMap pac) ps.length false]⟩, ⟨4, 0, fs (cc l f.ex.length t)⟩, ⟨77, 0, [.bool cp, .int .i64 film, .int .i64 len, .str m, .int .i64 fr]⟩]) (hsc3 t) (by simp) (List.append_assoc _ [_, _, _] [_]).symm (by
        rw [List.length_append]
        simp only [List.length_cons, List.length_nil]
        refine ⟨?_, ?_, ?_, ?_, ?_, ?_, trivial⟩
        · rw [h3]; exact .id (.ptr (by omega))
        · rw [h6]; exact .id (sl_scoped (fs_scoped _ _))
        · rw [h7]; exact .id (.msl (by omega))
        · rw [h52]; exact .id (sl_scoped (pal_sc _ _))
        · rw [h53]; exact .id (.int _ _)
        · rw [h54]; exact .id (.int _ _))) (e ▸ ih (ps.length - (j + 1)) (by omega) (j + 1) c' (!cp) (by omega) hrest rfl)
      refine PW.skip ?_; (repeat refine PW.seq ?_); refine PW.block ?_
      (repeat refine PW.seq ?_); refine PW.rg rfl fun K hK => ?_; simp (maxSteps := 3000000) (disch := omega) only [go_sem, ↓reduceIte, reduceCtorEq, pappend, plen, hat', hp5]; refine hK _ _ ?_; clear hK K
      (repeat refine PW.seq ?_); refine PW.rg rfl fun K hK => ?_; simp (maxSteps := 3000000) (disch := omega) only [go_sem, ↓reduceIte, reduceCtorEq, pappend, plen]; refine hK _ _ ?_; clear hK K
      (repeat refine PW.seq ?_); refine PW.block (PW.loop ?_)
      suffices hl2 : ∀ t : Nat, c + t ≤ c' → (cp = false → t = 0) → PL Try.prog _ _ [(3, .ptr H.length 0 0), (6, .slice (fs (rg f.ex.length (isS l))) f.ex.length false), (7, .msl (H.length + 2) 0 0 f.ex.length 1 true), (9, .ptr (H.length + 3) 0 0), (10, .int .i64 (t : Int)), (52, .slice (ps.flatMap pac) ps.length false), (53, .int .i64 (ps.length : Int)), (54, .int .i64 (j : Int))] (H ++ [⟨50, 0, flc f⟩, ⟨71, 0, [.slice (ps.flatMap pac) ps.length false]⟩, ⟨4, 0, fs (cc l f.ex.length (c + t))⟩, ⟨77, 0, [.bool cp, .int .i64 film, .int .i64 len, .str m, .int .i64 fr]⟩]) _ by
        exact PL.at [3, 6, 7, 9, 10, 52, 53, 54] (hl2 0 (by omega) (fun _ => rfl)) rfl rfl
      intro t ht ht0
      induction hd2 : c' - (c + t) using Nat.strongRecOn generalizing t with
      | _ d2 ih2 =>
        refine PL.round ?_
        (repeat refine PW.seq ?_); refine PW.rg rfl fun K hK => ?_; simp (maxSteps := 3000000) (disch := omega) only [go_sem, ↓reduceIte, reduceCtorEq, pappend, plen]; (repeat' ((first | refine VO_cond (fun h => ?_) (fun h => ?_) | refine VOd_cond (fun h => ?_) (fun h => ?_) | refine VOg_cond (fun h => ?_) (fun h => ?_) | refine VOh_cond (fun h => ?_) (fun h => ?_) | refine VOi_cond (fun h => ?_) (fun h => ?_) | refine And.intro (fun h => ?_) (fun h => ?_)) <;> (try simp only [Bool.not_eq_true', Bool.not_eq_false', decide_eq_true_eq, decide_eq_false_iff_not] at h) <;> simp (maxSteps := 3000000) (disch := omega) only [go_sem, ↓reduceIte, reduceCtorEq, pappend, plen, h]))
        all_goals refine hK _ _ ?_; clear hK K
        all_goals
          (repeat refine PW.seq ?_); refine PW.cond (t := _) rfl (fun h => ?_) (fun h => ?_)
        · rename_i htl
          have hcp := h
          obtain ⟨k1, _⟩ := q5 hcp (c + t) (by omega) (by omega)
          have hset := cc_set l f.ex.length (c + t) k1
          have e5 : film + (t : Int) = ((c + t : Nat) : Int) := by omega
          refine PW.skip ?_; (repeat refine PW.seq ?_); refine PW.block ?_
          (repeat refine PW.seq ?_); refine PW.rg rfl fun K hK => ?_; simp (maxSteps := 3000000) (disch := omega) only [go_sem, ↓reduceIte, reduceCtorEq, pappend, plen, e5, hcl, hset]; refine hK _ _ ?_; clear hK K
          (repeat refine PW.seq ?_); refine PW.rg rfl fun K hK => ?_; simp (maxSteps := 3000000) (disch := omega) only [go_sem, ↓reduceIte, reduceCtorEq, pappend, plen]; refine hK _ _ ?_; clear hK K
          exact PL.at [3, 6, 7, 9, 10, 52, 53, 54] (ih2 (c' - (c + (t + 1))) (by omega) (t + 1) (by omega) (fun hh => by rw [hcp] at hh; cases hh) rfl) rfl rfl
        · have hcp := h
          have ht' := ht0 hcp
          refine PW.exit ?_
          (repeat refine PW.seq ?_); refine PW.rg rfl fun K hK => ?_; simp (maxSteps := 3000000) (disch := omega) only [go_sem, ↓reduceIte, reduceCtorEq, pappend, plen]; refine hK _ _ ?_; clear hK K
          refine nxt _ (c + t) ?_ rfl rfl rfl rfl rfl rfl
          rw [ht', Nat.add_zero, show c' = c + (c' - c) by omega]
          exact (cc_coded (c' - c) (fun i i1 i2 => (q4 hcp).2.2 i i1 (by omega))).symm
        · cases h
        · rename_i htl
          refine PW.exit ?_
          (repeat refine PW.seq ?_); refine PW.rg rfl fun K hK => ?_; simp (maxSteps := 3000000) (disch := omega) only [go_sem, ↓reduceIte, reduceCtorEq, pappend, plen]; refine hK _ _ ?_; clear hK K
          refine nxt _ (c + t) ?_ rfl rfl rfl rfl rfl rfl
          rw [show c + t = c' by omega]

end Go.Proofs.Ytnjnikafhbholaa.Sc

namespace Go.Proofs.Ytnjnikafhbholaa.Sc
set_option linter.all false
set_option linter.unusedVariables false
set_option linter.unusedSimpArgs false
open Pm Ty Pl Go.RowKit

theorem lst_zero (t : List Int) : lst t 0 = 0 := rfl
theorem lst_b1 (t : List Int) (m : Nat) (h : ty t m = 3) : lst t (m + 1) = lst t m := by simp [lst, h]
theorem lst_n1 (t : List Int) (m : Nat) (h : ty t m ≠ 3) : lst t (m + 1) = m + 1 := by simp [lst, h]
theorem nb_step (t : List Int) (n j : Nat) (h1 : j < n) (h2 : ty t j = 3) : nb t n j = nb t n (j + 1) := by
  unfold nb
  rw [show n - j = (n - (j + 1)) + 1 by omega]
  simp only [nbF]
  rw [if_pos ⟨h1, h2⟩]
theorem nb_stop (t : List Int) (n j : Nat) (h : ¬ (j < n ∧ ty t j = 3)) : nb t n j = j := by
  unfold nb
  cases hn : n - j with
  | zero => rfl
  | succ f => simp only [nbF]; rw [if_neg h]

theorem before_ref (t : List Int) (k : Nat) (f : Bool) (H : Heap) (hl : t.length ≤ 1000000) (hk : k < t.length) : CallOk Try.prog 125 [.slice (is t) t.length f, .int .i64 (k : Int)] H (.int .i64 ((lst t k : Int) - 1)) H := by
  refine CallOk.body (F0 := [(0, .slice (is t) t.length f), (1, .int .i64 (k : Int))]) Try.func125 rfl Try.ntmps125 Try.results125 rfl (by kernel_rfl) rfl ?_
  (repeat refine PW.seq ?_); refine PW.rg rfl fun K hK => ?_; simp (maxSteps := 3000000) (disch := omega) only [go_sem, ↓reduceIte, reduceCtorEq, pappend, plen]; refine hK _ _ ?_; clear hK K; (repeat refine PW.seq ?_); refine PW.rg rfl fun K hK => ?_; simp (maxSteps := 3000000) (disch := omega) only [go_sem, ↓reduceIte, reduceCtorEq, pappend, plen]; refine hK _ _ ?_; clear hK K
  (repeat refine PW.seq ?_); refine PW.block (PW.loop ?_)
  suffices hloop : ∀ (m : Nat), m ≤ k → lst t m = lst t k → PL Try.prog _ _ [(0, .slice (is t) t.length f), (1, .int .i64 ((m : Int) - 1))] H _ by
    exact PL.at [0, 1] (hloop k (Nat.le_refl _) rfl) rfl rfl
  intro m hm hlm
  induction m using Nat.strongRecOn with
  | _ m ih =>
    refine PL.round ?_
    (repeat refine PW.seq ?_)
    refine PW.rgv (P := Try.prog) [0, 1] 15 (.bool (decide (0 < m ∧ ty t (m - 1) = 3))) ?_ ?_ ?_
    · rfl
    · rcases Nat.eq_zero_or_pos m with h0 | h0
      · subst h0
        simp (maxSteps := 3000000) (disch := omega) only [go_sem, ↓reduceIte, reduceCtorEq, pappend, plen]
        (repeat' ((first | refine VO_cond (fun h => ?_) (fun h => ?_) | refine VOd_cond (fun h => ?_) (fun h => ?_) | refine VOg_cond (fun h => ?_) (fun h => ?_) | refine VOh_cond (fun h => ?_) (fun h => ?_) | refine VOi_cond (fun h => ?_) (fun h => ?_) | refine And.intro (fun h => ?_) (fun h => ?_)) <;> (try simp only [Bool.not_eq_true', Bool.not_eq_false', decide_eq_true_eq, decide_eq_false_iff_not] at h) <;> simp (maxSteps := 3000000) (disch := omega) only [go_sem, ↓reduceIte, reduceCtorEq, pappend, plen, h]))
        all_goals (simp_all [slot, Nat.beq] <;> first | rfl | omega | (rw [Bool.eq_iff_iff]; simp; done) | (rw [Bool.eq_iff_iff]; simp; omega))
      · have e : (m : Int) - 1 = ((m - 1 : Nat) : Int) := by omega
        simp (maxSteps := 3000000) (disch := omega) only [go_sem, ↓reduceIte, reduceCtorEq, pappend, plen, e, is_get, is_len, intAt_ty]
        (repeat' ((first | refine VO_cond (fun h => ?_) (fun h => ?_) | refine VOd_cond (fun h => ?_) (fun h => ?_) | refine VOg_cond (fun h => ?_) (fun h => ?_) | refine VOh_cond (fun h => ?_) (fun h => ?_) | refine VOi_cond (fun h => ?_) (fun h => ?_) | refine And.intro (fun h => ?_) (fun h => ?_)) <;> (try simp only [Bool.not_eq_true', Bool.not_eq_false', decide_eq_true_eq, decide_eq_false_iff_not] at h) <;> simp (maxSteps := 3000000) (disch := omega) only [go_sem, ↓reduceIte, reduceCtorEq, pappend, plen, e, is_get, is_len, intAt_ty, h]))
        all_goals (simp_all [slot, Nat.beq] <;> first | rfl | omega | (rw [Bool.eq_iff_iff]; simp; done) | (rw [Bool.eq_iff_iff]; simp; omega))
    (repeat refine PW.seq ?_); refine PW.cond (t := _) rfl (fun h => ?_) (fun h => ?_)
    · have h5 : 0 < m ∧ ty t (m - 1) = 3 := of_decide_eq_true h
      have h6 := lst_b1 t (m - 1) h5.2
      rw [show m - 1 + 1 = m by omega] at h6
      refine PW.skip ?_; (repeat refine PW.seq ?_); refine PW.block ?_
      (repeat refine PW.seq ?_); refine PW.rg rfl fun K hK => ?_; simp (maxSteps := 3000000) (disch := omega) only [go_sem, ↓reduceIte, reduceCtorEq, pappend, plen]; refine hK _ _ ?_; clear hK K
      refine PL.at [0, 1] (ih (m - 1) (by omega) (by omega) (by omega)) ?_ rfl
      rw [show ((m - 1 : Nat) : Int) - 1 = (m : Int) - 1 - 1 by omega]; rfl
    · have h5 : ¬ (0 < m ∧ ty t (m - 1) = 3) := of_decide_eq_false h
      refine PW.exit ?_
      have e : lst t k = m := by
        rw [← hlm]
        rcases Nat.eq_zero_or_pos m with h0 | h0
        · subst h0; rfl
        · have := lst_n1 t (m - 1) (fun e => h5 ⟨h0, e⟩)
          rwa [show m - 1 + 1 = m by omega] at this
      (repeat refine PW.seq ?_); refine PW.rg rfl fun K hK => ?_; simp (maxSteps := 3000000) (disch := omega) only [go_sem, ↓reduceIte, reduceCtorEq, pappend, plen]; refine hK _ _ ?_; clear hK K
      refine PW.ret ⟨_, rfl, ?_⟩
      rw [e]
      exact Fin.now

theorem after_ref (t : List Int) (k : Nat) (f : Bool) (H : Heap) (hl : t.length ≤ 1000000) (hk : k < t.length) : CallOk Try.prog 126 [.slice (is t) t.length f, .int .i64 (k : Int)] H (.int .i64 (if nb t t.length (k + 1) < t.length then (nb t t.length (k + 1) : Int) else -1)) H := by
  refine CallOk.body (F0 := [(0, .slice (is t) t.length f), (1, .int .i64 (k : Int))]) Try.func126 rfl Try.ntmps126 Try.results126 rfl (by kernel_rfl) rfl ?_
  (repeat refine PW.seq ?_); refine PW.rg rfl fun K hK => ?_; simp (maxSteps := 3000000) (disch := omega) only [go_sem, ↓reduceIte, reduceCtorEq, pappend, plen]; refine hK _ _ ?_; clear hK K; (repeat refine PW.seq ?_); refine PW.rg rfl fun K hK => ?_; simp (maxSteps := 3000000) (disch := omega) only [go_sem, ↓reduceIte, reduceCtorEq, pappend, plen]; refine hK _ _ ?_; clear hK K
  (repeat refine PW.seq ?_); refine PW.block (PW.loop ?_)
  suffices hloop : ∀ (m : Nat), m ≤ t.length → nb t t.length m = nb t t.length (k + 1) → PL Try.prog _ _ [(0, .slice (is t) t.length f), (1, .int .i64 (m : Int))] H _ by
    exact PL.at [0, 1] (hloop (k + 1) (by omega) rfl) rfl rfl
  intro m hm hlm
  induction hd : t.length - m using Nat.strongRecOn generalizing m with
  | _ d ih =>
    refine PL.round ?_
    (repeat refine PW.seq ?_)
    refine PW.rgv (P := Try.prog) [0, 1] 17 (.bool (decide (m < t.length ∧ ty t m = 3))) ?_ ?_ ?_
    · rfl
    · simp (maxSteps := 3000000) (disch := omega) only [go_sem, ↓reduceIte, reduceCtorEq, pappend, plen]
      (repeat' ((first | refine VO_cond (fun h => ?_) (fun h => ?_) | refine VOd_cond (fun h => ?_) (fun h => ?_) | refine VOg_cond (fun h => ?_) (fun h => ?_) | refine VOh_cond (fun h => ?_) (fun h => ?_) | refine VOi_cond (fun h => ?_) (fun h => ?_) | refine And.intro (fun h => ?_) (fun h => ?_)) <;> (try simp only [Bool.not_eq_true', Bool.not_eq_false', decide_eq_true_eq, decide_eq_false_iff_not] at h) <;> simp (maxSteps := 3000000) (disch := omega) only [go_sem, ↓reduceIte, reduceCtorEq, pappend, plen, is_get, is_len, intAt_ty, h]))
      all_goals (simp_all [slot, Nat.beq] <;> first | rfl | omega | (rw [Bool.eq_iff_iff]; simp; done) | (rw [Bool.eq_iff_iff]; simp; omega))
    (repeat refine PW.seq ?_); refine PW.cond (t := _) rfl (fun h => ?_) (fun h => ?_)
    · have h5 : m < t.length ∧ ty t m = 3 := of_decide_eq_true h
      refine PW.skip ?_; (repeat refine PW.seq ?_); refine PW.block ?_
      (repeat refine PW.seq ?_); refine PW.rg rfl fun K hK => ?_; simp (maxSteps := 3000000) (disch := omega) only [go_sem, ↓reduceIte, reduceCtorEq, pappend, plen]; refine hK _ _ ?_; clear hK K
      exact PL.at [0, 1] (ih (t.length - (m + 1)) (by omega) (m + 1) (by omega) (by rw [← nb_step t _ m h5.1 h5.2]; exact hlm) rfl) rfl rfl
    · have h5 : ¬ (m < t.length ∧ ty t m = 3) := of_decide_eq_false h
      refine PW.exit ?_
      rw [← hlm, nb_stop t _ m h5]
      (repeat refine PW.seq ?_); refine PW.rg rfl fun K hK => ?_; simp (maxSteps := 3000000) (disch := omega) only [go_sem, ↓reduceIte, reduceCtorEq, pappend, plen]; refine hK _ _ ?_; clear hK K
      (repeat refine PW.seq ?_); refine PW.cond (t := _) rfl (fun h => ?_) (fun h => ?_)
      · have h6 : m = t.length := by simp at h; omega
        rw [if_neg (by omega)]
        (repeat refine PW.seq ?_); refine PW.rg rfl fun K hK => ?_; simp (maxSteps := 3000000) (disch := omega) only [go_sem, ↓reduceIte, reduceCtorEq, pappend, plen]; refine hK _ _ ?_; clear hK K
        exact PW.ret ⟨_, rfl, Fin.now⟩
      · have h6 : m ≠ t.length := by intro e; subst e; simp at h
        rw [if_pos (by omega)]
        refine PW.skip ?_
        (repeat refine PW.seq ?_); refine PW.rg rfl fun K hK => ?_; simp (maxSteps := 3000000) (disch := omega) only [go_sem, ↓reduceIte, reduceCtorEq, pappend, plen]; refine hK _ _ ?_; clear hK K
        exact PW.ret ⟨_, rfl, Fin.now⟩

theorem kept_ref (t : List Int) (S : Nat → Bool) (k : Nat) (f g : Bool) (H : Heap) (hl : t.length ≤ 1000000) (hk : k < t.length) :
    CallOk Try.prog 86 [.slice (is t) t.length f, .slice (fs (rg t.length S)) t.length g, .int .i64 (k : Int)] H (.bool (kept t t.length S k)) H := by
  have hll := lst_le t k
  obtain ⟨q1, q2, q3, q4⟩ := nb_spec t t.length (k + 1) (by omega)
  refine CallOk.body (F0 := [(0, .slice (is t) t.length f), (1, .slice (fs (rg t.length S)) t.length g), (2, .int .i64 (k : Int))]) Try.func86 rfl Try.ntmps86 Try.results86 rfl (by kernel_rfl) rfl ?_
  (repeat refine PW.seq ?_); refine PW.rg rfl fun K hK => ?_; simp (maxSteps := 3000000) (disch := omega) only [go_sem, ↓reduceIte, reduceCtorEq, pappend, plen]; refine hK _ _ ?_; clear hK K
  (repeat refine PW.seq ?_); refine PW.rg rfl fun K hK => ?_; simp (maxSteps := 3000000) (disch := omega) only [go_sem, ↓reduceIte, reduceCtorEq, pappend, plen]
  refine VCx.call (before_ref t k f H hl hk) rfl ?_; simp (maxSteps := 3000000) (disch := omega) only [go_sem, ↓reduceIte, reduceCtorEq, pappend, plen]
  refine VCx.call (after_ref t k f H hl hk) rfl ?_; simp (maxSteps := 3000000) (disch := omega) only [go_sem, ↓reduceIte, reduceCtorEq, pappend, plen]
  refine hK _ _ ?_; clear hK K
  (repeat refine PW.seq ?_); refine PW.rg rfl fun K hK => ?_; simp (maxSteps := 3000000) (disch := omega) only [go_sem, ↓reduceIte, reduceCtorEq, pappend, plen, is_get, is_len, intAt_ty]; refine hK _ _ ?_; clear hK K
  (repeat refine PW.seq ?_); refine PW.block ?_
  (repeat refine PW.seq ?_); refine PW.rg rfl fun K hK => ?_; simp (maxSteps := 3000000) (disch := omega) only [go_sem, ↓reduceIte, reduceCtorEq, pappend, plen]; refine hK _ _ ?_; clear hK K
  (repeat refine PW.seq ?_); refine PW.cond (t := _) rfl (fun h => ?_) (fun h => ?_)
  · have h1 : ty t k = 1 := by simpa using h
    (repeat refine PW.seq ?_); refine PW.rg rfl fun K hK => ?_; simp (maxSteps := 3000000) (disch := omega) only [go_sem, ↓reduceIte, reduceCtorEq, pappend, plen]; refine hK _ _ ?_; clear hK K
    refine PW.ret ⟨_, rfl, ?_⟩
    simp only [kept, if_pos h1]
    exact Fin.now
  have h1 : ty t k ≠ 1 := by simpa using h
  (repeat refine PW.seq ?_); refine PW.rg rfl fun K hK => ?_; simp (maxSteps := 3000000) (disch := omega) only [go_sem, ↓reduceIte, reduceCtorEq, pappend, plen]; refine hK _ _ ?_; clear hK K
  (repeat refine PW.seq ?_); refine PW.cond (t := _) rfl (fun h => ?_) (fun h => ?_)
  · have h2 : ty t k = 2 := by simpa using h
    refine PW.seq ?_
    refine PW.rgv (P := Try.prog) [] 6 (.bool (kept t t.length S k)) ?_ ?_ ?_
    · rfl
    · simp only [kept, if_neg h1, if_pos h2]
      by_cases h0 : 0 < lst t k
      · have e : (lst t k : Int) - 1 = ((lst t k - 1 : Nat) : Int) := by omega
        simp (maxSteps := 3000000) (disch := omega) only [go_sem, ↓reduceIte, reduceCtorEq, pappend, plen, e, rg_cell, rg_len, fs_len]
        (repeat' ((first | refine VO_cond (fun h => ?_) (fun h => ?_) | refine VOd_cond (fun h => ?_) (fun h => ?_) | refine VOg_cond (fun h => ?_) (fun h => ?_) | refine VOh_cond (fun h => ?_) (fun h => ?_) | refine VOi_cond (fun h => ?_) (fun h => ?_) | refine And.intro (fun h => ?_) (fun h => ?_)) <;> (try simp only [Bool.not_eq_true', Bool.not_eq_false', decide_eq_true_eq, decide_eq_false_iff_not] at h) <;> simp (maxSteps := 3000000) (disch := omega) only [go_sem, ↓reduceIte, reduceCtorEq, pappend, plen, e, rg_cell, rg_len, fs_len, h]))
        all_goals (simp_all [slot, Nat.beq] <;> first | rfl | omega | (rw [Bool.eq_iff_iff]; simp; done) | (rw [Bool.eq_iff_iff]; simp; omega))
      · simp (maxSteps := 3000000) (disch := omega) only [go_sem, ↓reduceIte, reduceCtorEq, pappend, plen]
        (repeat' ((first | refine VO_cond (fun h => ?_) (fun h => ?_) | refine VOd_cond (fun h => ?_) (fun h => ?_) | refine VOg_cond (fun h => ?_) (fun h => ?_) | refine VOh_cond (fun h => ?_) (fun h => ?_) | refine VOi_cond (fun h => ?_) (fun h => ?_) | refine And.intro (fun h => ?_) (fun h => ?_)) <;> (try simp only [Bool.not_eq_true', Bool.not_eq_false', decide_eq_true_eq, decide_eq_false_iff_not] at h) <;> simp (maxSteps := 3000000) (disch := omega) only [go_sem, ↓reduceIte, reduceCtorEq, pappend, plen, h]))
        all_goals (simp_all [slot, Nat.beq] <;> first | rfl | omega | (rw [Bool.eq_iff_iff]; simp; done) | (rw [Bool.eq_iff_iff]; simp; omega))
    exact PW.ret ⟨_, rfl, Fin.now⟩
  have h2 : ty t k ≠ 2 := by simpa using h
  (repeat refine PW.seq ?_); refine PW.rg rfl fun K hK => ?_; simp (maxSteps := 3000000) (disch := omega) only [go_sem, ↓reduceIte, reduceCtorEq, pappend, plen]; refine hK _ _ ?_; clear hK K
  (repeat refine PW.seq ?_); refine PW.cond (t := _) rfl (fun h => ?_) (fun h => ?_)
  · have h3 : ty t k = 3 := by simpa using h
    refine PW.seq ?_
    refine PW.rgv (P := Try.prog) [] 6 (.bool (kept t t.length S k)) ?_ ?_ ?_
    · rfl
    · simp only [kept, if_neg h1, if_neg h2, if_pos h3]
      by_cases h0 : 0 < lst t k
      · have e : (lst t k : Int) - 1 = ((lst t k - 1 : Nat) : Int) := by omega
        by_cases hn : nb t t.length (k + 1) < t.length
        · simp (maxSteps := 3000000) (disch := omega) only [go_sem, ↓reduceIte, reduceCtorEq, pappend, plen, e, rg_cell, rg_len, fs_len, hn]
          (repeat' ((first | refine VO_cond (fun h => ?_) (fun h => ?_) | refine VOd_cond (fun h => ?_) (fun h => ?_) | refine VOg_cond (fun h => ?_) (fun h => ?_) | refine VOh_cond (fun h => ?_) (fun h => ?_) | refine VOi_cond (fun h => ?_) (fun h => ?_) | refine And.intro (fun h => ?_) (fun h => ?_)) <;> (try simp only [Bool.not_eq_true', Bool.not_eq_false', decide_eq_true_eq, decide_eq_false_iff_not] at h) <;> simp (maxSteps := 3000000) (disch := omega) only [go_sem, ↓reduceIte, reduceCtorEq, pappend, plen, e, rg_cell, rg_len, fs_len, hn, h]))
          all_goals (simp_all [slot, Nat.beq] <;> first | rfl | omega | (rw [Bool.eq_iff_iff]; simp; done) | (rw [Bool.eq_iff_iff]; simp; omega))
        · simp (maxSteps := 3000000) (disch := omega) only [go_sem, ↓reduceIte, reduceCtorEq, pappend, plen, e, rg_cell, rg_len, fs_len, hn]
          (repeat' ((first | refine VO_cond (fun h => ?_) (fun h => ?_) | refine VOd_cond (fun h => ?_) (fun h => ?_) | refine VOg_cond (fun h => ?_) (fun h => ?_) | refine VOh_cond (fun h => ?_) (fun h => ?_) | refine VOi_cond (fun h => ?_) (fun h => ?_) | refine And.intro (fun h => ?_) (fun h => ?_)) <;> (try simp only [Bool.not_eq_true', Bool.not_eq_false', decide_eq_true_eq, decide_eq_false_iff_not] at h) <;> simp (maxSteps := 3000000) (disch := omega) only [go_sem, ↓reduceIte, reduceCtorEq, pappend, plen, e, rg_cell, rg_len, fs_len, hn, h]))
          all_goals (simp_all [slot, Nat.beq] <;> first | rfl | omega | (rw [Bool.eq_iff_iff]; simp; done) | (rw [Bool.eq_iff_iff]; simp; omega))
      · simp (maxSteps := 3000000) (disch := omega) only [go_sem, ↓reduceIte, reduceCtorEq, pappend, plen]
        (repeat' ((first | refine VO_cond (fun h => ?_) (fun h => ?_) | refine VOd_cond (fun h => ?_) (fun h => ?_) | refine VOg_cond (fun h => ?_) (fun h => ?_) | refine VOh_cond (fun h => ?_) (fun h => ?_) | refine VOi_cond (fun h => ?_) (fun h => ?_) | refine And.intro (fun h => ?_) (fun h => ?_)) <;> (try simp only [Bool.not_eq_true', Bool.not_eq_false', decide_eq_true_eq, decide_eq_false_iff_not] at h) <;> simp (maxSteps := 3000000) (disch := omega) only [go_sem, ↓reduceIte, reduceCtorEq, pappend, plen, h]))
        all_goals (simp_all [slot, Nat.beq] <;> first | rfl | omega | (rw [Bool.eq_iff_iff]; simp; done) | (rw [Bool.eq_iff_iff]; simp; omega))
    exact PW.ret ⟨_, rfl, Fin.now⟩
  have h3 : ty t k ≠ 3 := by simpa using h
  refine PW.skip ?_
  (repeat refine PW.seq ?_); refine PW.rg rfl fun K hK => ?_; simp (maxSteps := 3000000) (disch := omega) only [go_sem, ↓reduceIte, reduceCtorEq, pappend, plen]; refine hK _ _ ?_; clear hK K
  refine PW.ret ⟨_, rfl, ?_⟩
  simp only [kept, if_neg h1, if_neg h2, if_neg h3]
  exact Fin.now

/-- Is the set closed? -/
noncomputable def clo (t : List Int) (n : Nat) (S : Nat → Bool) : Bool := by classical exact decide (Closed t n S)
theorem clo_true {t : List Int} {n : Nat} {S : Nat → Bool} : clo t n S = true ↔ Closed t n S := by unfold clo; simp

theorem closed_ref (t : List Int) (S : Nat → Bool) (f g : Bool) (H : Heap) (hl : t.length ≤ 1000000) :
    CallOk Try.prog 38 [.slice (is t) t.length f, .slice (fs (rg t.length S)) t.length g] H (.bool (clo t t.length S)) H := by
  refine CallOk.body (F0 := [(0, .slice (is t) t.length f), (1, .slice (fs (rg t.length S)) t.length g)]) Try.func38 rfl Try.ntmps38 Try.results38 rfl (by kernel_rfl) rfl ?_
  (repeat refine PW.seq ?_); refine PW.rg rfl fun K hK => ?_; simp (maxSteps := 3000000) (disch := omega) only [go_sem, ↓reduceIte, reduceCtorEq, pappend, plen]; refine hK _ _ ?_; clear hK K; (repeat refine PW.seq ?_); refine PW.rg rfl fun K hK => ?_; simp (maxSteps := 3000000) (disch := omega) only [go_sem, ↓reduceIte, reduceCtorEq, pappend, plen]; refine hK _ _ ?_; clear hK K
  (repeat refine PW.seq ?_); refine PW.block (PW.loop ?_)
  suffices hloop : ∀ (m : Nat), m ≤ t.length → (∀ k, k < m → S k = true → kept t t.length S k = true) → PL Try.prog _ _ [(0, .slice (is t) t.length f), (1, .slice (fs (rg t.length S)) t.length g), (5, .int .i64 (m : Int))] H _ by
    exact PL.at [0, 1, 5] (hloop 0 (Nat.zero_le _) (fun k hk => by omega)) rfl rfl
  intro m hm hall
  induction hd : t.length - m using Nat.strongRecOn generalizing m with
  | _ d ih =>
    refine PL.round ?_; (repeat refine PW.seq ?_); refine PW.rg rfl fun K hK => ?_; simp (maxSteps := 3000000) (disch := omega) only [go_sem, ↓reduceIte, reduceCtorEq, pappend, plen]; refine hK _ _ ?_; clear hK K
    (repeat refine PW.seq ?_); refine PW.cond (t := _) rfl (fun h => ?_) (fun h => ?_)
    · have h4 : m < t.length := by have := of_decide_eq_true h; omega
      refine PW.skip ?_
      (repeat refine PW.seq ?_); refine PW.block ?_
      (repeat refine PW.seq ?_)
      refine PW.rgv (P := Try.prog) [0, 1, 5] 22 (.bool (S m && !(kept t t.length S m))) ?_ ?_ ?_
      · rfl
      · cases hS : S m
        · simp (maxSteps := 3000000) (disch := omega) only [go_sem, ↓reduceIte, reduceCtorEq, pappend, plen, rg_cell, rg_len, fs_len, hS]
          (repeat' ((first | refine VO_cond (fun h => ?_) (fun h => ?_) | refine VOd_cond (fun h => ?_) (fun h => ?_) | refine VOg_cond (fun h => ?_) (fun h => ?_) | refine VOh_cond (fun h => ?_) (fun h => ?_) | refine VOi_cond (fun h => ?_) (fun h => ?_) | refine And.intro (fun h => ?_) (fun h => ?_)) <;> (try simp only [Bool.not_eq_true', Bool.not_eq_false', decide_eq_true_eq, decide_eq_false_iff_not] at h) <;> simp (maxSteps := 3000000) (disch := omega) only [go_sem, ↓reduceIte, reduceCtorEq, pappend, plen, rg_cell, rg_len, fs_len, hS, h]))
          all_goals (simp_all [slot, Nat.beq] <;> first | rfl | omega | (rw [Bool.eq_iff_iff]; simp; done) | (rw [Bool.eq_iff_iff]; simp; omega))
        · simp (maxSteps := 3000000) (disch := omega) only [go_sem, ↓reduceIte, reduceCtorEq, pappend, plen, rg_cell, rg_len, fs_len, hS]
          (repeat' (first | ((first | refine VO_cond (fun h => ?_) (fun h => ?_) | refine VOd_cond (fun h => ?_) (fun h => ?_) | refine VOg_cond (fun h => ?_) (fun h => ?_) | refine VOh_cond (fun h => ?_) (fun h => ?_) | refine VOi_cond (fun h => ?_) (fun h => ?_) | refine And.intro (fun h => ?_) (fun h => ?_)) <;> (try simp only [Bool.not_eq_true', Bool.not_eq_false', decide_eq_true_eq, decide_eq_false_iff_not] at h) <;> simp (maxSteps := 3000000) (disch := omega) only [go_sem, ↓reduceIte, reduceCtorEq, pappend, plen, rg_cell, rg_len, fs_len, hS, h]) | (refine VCx.call (kept_ref t S m f g H hl h4) rfl ?_; simp (maxSteps := 3000000) (disch := omega) only [go_sem, ↓reduceIte, reduceCtorEq, pappend, plen, rg_cell, rg_len, fs_len, hS]) | (refine VCy.call (kept_ref t S m f g H hl h4) rfl ?_; simp (maxSteps := 3000000) (disch := omega) only [go_sem, ↓reduceIte, reduceCtorEq, pappend, plen, rg_cell, rg_len, fs_len, hS]) | (refine VCz.call (fun _ => kept_ref t S m f g H hl h4) rfl ?_; simp (maxSteps := 3000000) (disch := omega) only [go_sem, ↓reduceIte, reduceCtorEq, pappend, plen, rg_cell, rg_len, fs_len, hS]) | (refine VCk.call (fun _ _ => kept_ref t S m f g H hl h4) rfl ?_; simp (maxSteps := 3000000) (disch := omega) only [go_sem, ↓reduceIte, reduceCtorEq, pappend, plen, rg_cell, rg_len, fs_len, hS])))
          all_goals (simp_all [slot, Nat.beq] <;> first | rfl | omega | (rw [Bool.eq_iff_iff]; simp; done) | (rw [Bool.eq_iff_iff]; simp; omega))
      (repeat refine PW.seq ?_); refine PW.cond (t := _) rfl (fun h => ?_) (fun h => ?_)
      · have h5 : S m = true ∧ kept t t.length S m = false := by simpa using h
        (repeat refine PW.seq ?_); refine PW.rg rfl fun K hK => ?_; simp (maxSteps := 3000000) (disch := omega) only [go_sem, ↓reduceIte, reduceCtorEq, pappend, plen]; refine hK _ _ ?_; clear hK K
        refine PW.ret ⟨_, rfl, ?_⟩
        have : clo t t.length S = false := by
          cases hc : clo t t.length S
          · rfl
          · have := clo_true.1 hc m h4 h5.1
            rw [h5.2] at this; cases this
        rw [this]
        exact Fin.now
      · have h5 : S m = true → kept t t.length S m = true := fun e => by rw [e] at h; simpa using h
        refine PW.skip ?_
        (repeat refine PW.seq ?_); refine PW.rg rfl fun K hK => ?_; simp (maxSteps := 3000000) (disch := omega) only [go_sem, ↓reduceIte, reduceCtorEq, pappend, plen]; refine hK _ _ ?_; clear hK K
        refine PL.at [0, 1, 5] (ih (t.length - (m + 1)) (by omega) (m + 1) (by omega) (fun k hk hS => ?_) rfl) rfl rfl
        by_cases e : k = m
        · subst e; exact h5 hS
        · exact hall k (by omega) hS
    · have h4 : m = t.length := by have := of_decide_eq_false h; omega
      subst h4
      refine PW.exit ?_
      (repeat refine PW.seq ?_); refine PW.rg rfl fun K hK => ?_; simp (maxSteps := 3000000) (disch := omega) only [go_sem, ↓reduceIte, reduceCtorEq, pappend, plen]; refine hK _ _ ?_; clear hK K
      refine PW.ret ⟨_, rfl, ?_⟩
      rw [clo_true.2 hall]
      exact Fin.now

end Go.Proofs.Ytnjnikafhbholaa.Sc

namespace Go.Proofs.Ytnjnikafhbholaa.Sc
set_option linter.all false
set_option linter.unusedVariables false
set_option linter.unusedSimpArgs false
open Pm Ty Pl Go.RowKit

theorem kept_mono (t : List Int) (n : Nat) {S S' : Nat → Bool} (h : ∀ j, j < n → S j = true → S' j = true) (k : Nat) (hk : k < n) (hS : kept t n S k = true) : kept t n S' k = true := by
  have hll := lst_le t k
  unfold kept at hS ⊢
  split
  · rfl
  · rename_i h1
    rw [if_neg h1] at hS
    split
    · rename_i h2
      rw [if_pos h2] at hS
      simp only [Bool.and_eq_true, decide_eq_true_eq] at hS ⊢
      exact ⟨hS.1, h _ (by omega) hS.2⟩
    · rename_i h2
      rw [if_neg h2] at hS
      split
      · rename_i h3
        rw [if_pos h3] at hS
        simp only [Bool.and_eq_true, decide_eq_true_eq] at hS ⊢
        exact ⟨hS.1, hS.2.1, h _ (by omega) hS.2.2.1, h _ hS.2.1 hS.2.2.2⟩
      · rename_i h3
        rw [if_neg h3] at hS
        exact hS

def cnt (n : Nat) (S : Nat → Bool) : Nat := ((List.range n).filter S).length
theorem cnt_le (S S' : Nat → Bool) : ∀ n, (∀ j, j < n → S' j = true → S j = true) → cnt n S' ≤ cnt n S
  | 0, _ => Nat.le_refl _
  | n + 1, h => by
    have := cnt_le S S' n (fun j hj => h j (by omega))
    unfold cnt at *
    rw [List.range_succ, List.filter_append, List.filter_append, List.length_append, List.length_append]
    have hn := h n (by omega)
    cases e : S' n
    · simp [e]; omega
    · simp [e, hn e]; omega
theorem cnt_lt (S S' : Nat → Bool) : ∀ n, (∀ j, j < n → S' j = true → S j = true) → (∃ j, j < n ∧ S j = true ∧ S' j = false) → cnt n S' < cnt n S
  | 0, _, ⟨j, hj, _⟩ => by omega
  | n + 1, h, ⟨j, hj, h1, h2⟩ => by
    have hle := cnt_le S S' n (fun j hj => h j (by omega))
    by_cases e : j = n
    · subst e
      unfold cnt at *
      rw [List.range_succ, List.filter_append, List.filter_append, List.length_append, List.length_append]
      simp [h1, h2]; omega
    · have hlt := cnt_lt S S' n (fun j hj => h j (by omega)) ⟨j, by omega, h1, h2⟩
      have hn := h n (by omega)
      unfold cnt at *
      rw [List.range_succ, List.filter_append, List.filter_append, List.length_append, List.length_append]
      cases e : S' n
      · simp [e]; omega
      · simp [e, hn e]; omega

set_option maxRecDepth 10000 in
theorem copy_ref (t : List Int) (f : Bool) (H : Heap) (hl : t.length ≤ 1000000) : CallOk Try.prog 37 [.slice (is t) t.length f] H (.slice (fs (rg t.length (arr t t.length))) t.length false) H := by
  refine CallOk.body (F0 := [(0, .slice (is t) t.length f)]) Try.func37 rfl Try.ntmps37 Try.results37 rfl (by kernel_rfl) rfl ?_
  (repeat refine PW.seq ?_); refine PW.rg rfl fun K hK => ?_; simp (maxSteps := 3000000) (disch := omega) only [go_sem, ↓reduceIte, reduceCtorEq, pappend, plen]; refine hK _ _ ?_; clear hK K; (repeat refine PW.seq ?_); refine PW.rg rfl fun K hK => ?_; simp (maxSteps := 3000000) (disch := omega) only [go_sem, ↓reduceIte, reduceCtorEq, pappend, plen]; refine hK _ _ ?_; clear hK K; (repeat refine PW.seq ?_); refine PW.rg rfl fun K hK => ?_; simp (maxSteps := 3000000) (disch := omega) only [go_sem, ↓reduceIte, reduceCtorEq, pappend, plen]; refine hK _ _ ?_; clear hK K
  (repeat refine PW.seq ?_); refine PW.block (PW.loop ?_)
  suffices hloop : ∀ i, i ≤ t.length → PL Try.prog _ _ [(0, .slice (is t) t.length f), (3, .msl H.length 0 0 t.length 1 true), (4, .int .i64 (i : Int))] (H ++ [⟨4, 0, fs (rg t.length fun j => decide (j < i))⟩]) _ by
    refine PL.at [0, 3, 4] (hloop 0 (Nat.zero_le _)) rfl ?_
    rw [show (fun j => decide (j < 0)) = fun _ => false from by funext j; simp, rg_false]; rfl
  intro i hi
  induction hm : t.length - i using Nat.strongRecOn generalizing i with
  | _ m ih =>
    refine PL.round ?_; (repeat refine PW.seq ?_); refine PW.rg rfl fun K hK => ?_; simp (maxSteps := 3000000) (disch := omega) only [go_sem, ↓reduceIte, reduceCtorEq, pappend, plen]; refine hK _ _ ?_; clear hK K
    (repeat refine PW.seq ?_); refine PW.cond (t := _) rfl (fun h => ?_) (fun h => ?_)
    · have h4 : i < t.length := by have := of_decide_eq_true h; omega
      have hset : (fs (rg t.length fun j => decide (j < i))).set i (.bool true) = fs (rg t.length fun j => decide (j < i + 1)) := by
        rw [rg_set]
        rw [rg_ext t.length (g' := fun j => decide (j < i + 1)) (fun j hj => by
          by_cases e : j = i
          · subst e; simp
          · rw [if_neg e]
            have : (j < i) = (j < i + 1) := by apply propext; omega
            simp only [this])]
      refine PW.skip ?_; (repeat refine PW.seq ?_); refine PW.block ?_
      (repeat refine PW.seq ?_); refine PW.rg rfl fun K hK => ?_; simp (maxSteps := 3000000) (disch := omega) only [go_sem, ↓reduceIte, reduceCtorEq, pappend, plen, rg_len, fs_len, hset]; refine hK _ _ ?_; clear hK K
      (repeat refine PW.seq ?_); refine PW.rg rfl fun K hK => ?_; simp (maxSteps := 3000000) (disch := omega) only [go_sem, ↓reduceIte, reduceCtorEq, pappend, plen]; refine hK _ _ ?_; clear hK K
      exact PL.at [0, 3, 4] (ih (t.length - (i + 1)) (by omega) (i + 1) (by omega) rfl) rfl rfl
    · have h4 : i = t.length := by have := of_decide_eq_false h; omega
      subst h4
      clear ih hm h
      refine PW.exit ?_
      (repeat refine PW.seq ?_); refine PW.block (PW.loop ?_)
      suffices hloop : ∀ (S : Nat → Bool), (∀ j, j < t.length → arr t t.length j = true → S j = true) → PL Try.prog _ _ [(0, .slice (is t) t.length f), (3, .msl H.length 0 0 t.length 1 true)] (H ++ [⟨4, 0, fs (rg t.length S)⟩]) _ by
        exact PL.at [0, 3] (hloop (fun j => decide (j < t.length)) (fun j hj _ => by simpa using hj)) rfl rfl
      intro S hS
      induction hm : cnt t.length S using Nat.strongRecOn generalizing S with
      | _ m ih =>
        have hcall : ∀ S, CallOk Try.prog 38 [.slice (is t) t.length f, .msl H.length 0 0 t.length 1 true] (H ++ [⟨4, 0, fs (rg t.length S)⟩]) (.bool (clo t t.length S)) (H ++ [⟨4, 0, fs (rg t.length S)⟩]) := fun S =>
          CallOk.borrow (closed_ref t S f false [] (by omega)) ⟨.id (sl_scoped (is_scoped 0 t)), Fz.mslC (e := 4) (xs := fs (rg t.length S)) (Nat.zero_le _) (by simp) (by rw [fs_len, rg_len]; omega) (FzC.refl (fs_scoped _ _)), trivial⟩ (.bool _)
        have hkept : ∀ S k, k < t.length → CallOk Try.prog 86 [.slice (is t) t.length f, .msl H.length 0 0 t.length 1 true, .int .i64 (k : Int)] (H ++ [⟨4, 0, fs (rg t.length S)⟩]) (.bool (kept t t.length S k)) (H ++ [⟨4, 0, fs (rg t.length S)⟩]) := fun S k hk =>
          CallOk.borrow (kept_ref t S k f false [] (by omega) hk) ⟨.id (sl_scoped (is_scoped 0 t)), Fz.mslC (e := 4) (xs := fs (rg t.length S)) (Nat.zero_le _) (by simp) (by rw [fs_len, rg_len]; omega) (FzC.refl (fs_scoped _ _)), .id (.int _ _), trivial⟩ (.bool _)
        refine PL.round ?_
        (repeat refine PW.seq ?_); refine PW.rg rfl fun K hK => ?_; simp (maxSteps := 3000000) (disch := omega) only [go_sem, ↓reduceIte, reduceCtorEq, pappend, plen]; refine VCx.call (hcall S) rfl ?_; simp (maxSteps := 3000000) (disch := omega) only [go_sem, ↓reduceIte, reduceCtorEq, pappend, plen]; refine hK _ _ ?_; clear hK K
        (repeat refine PW.seq ?_); refine PW.cond (t := _) rfl (fun h => ?_) (fun h => ?_)
        · have h4 : clo t t.length S = false := by simpa using h
          have hnc : ∃ j, j < t.length ∧ S j = true ∧ kept t t.length S j = false := by
            apply Classical.byContradiction
            intro hno
            have : clo t t.length S = true := clo_true.2 (fun j hj hSj => by
              cases hk : kept t t.length S j
              · exact absurd ⟨j, hj, hSj, hk⟩ hno
              · rfl)
            rw [h4] at this; cases this
          obtain ⟨j0, hj0, hSj0, hkj0⟩ := hnc
          refine PW.skip ?_
          (repeat refine PW.seq ?_); refine PW.block ?_
          (repeat refine PW.seq ?_); refine PW.rg rfl fun K hK => ?_; simp (maxSteps := 3000000) (disch := omega) only [go_sem, ↓reduceIte, reduceCtorEq, pappend, plen]; refine hK _ _ ?_; clear hK K
          (repeat refine PW.seq ?_); refine PW.block (PW.loop ?_)
          suffices hloop : ∀ (k : Nat) (S' : Nat → Bool), k ≤ t.length → (∀ j, j < t.length → arr t t.length j = true → S' j = true) → (∀ j, j < t.length → S' j = true → S j = true) → (∀ j, k ≤ j → S' j = S j) → (j0 < k → S' j0 = false) → PL Try.prog _ _ [(0, .slice (is t) t.length f), (3, .msl H.length 0 0 t.length 1 true), (5, .int .i64 (k : Int))] (H ++ [⟨4, 0, fs (rg t.length S')⟩]) _ by
            exact PL.at [0, 3, 5] (hloop 0 S (Nat.zero_le _) hS (fun _ _ h => h) (fun _ _ => rfl) (fun h => by omega)) rfl rfl
          intro k S' hk q1 q2 q3 q4
          induction hm2 : t.length - k using Nat.strongRecOn generalizing k S' with
          | _ m2 ih2 =>
            refine PL.round ?_; (repeat refine PW.seq ?_); refine PW.rg rfl fun K hK => ?_; simp (maxSteps := 3000000) (disch := omega) only [go_sem, ↓reduceIte, reduceCtorEq, pappend, plen]; refine hK _ _ ?_; clear hK K
            (repeat refine PW.seq ?_); refine PW.cond (t := _) rfl (fun h => ?_) (fun h => ?_)
            · have h5 : k < t.length := by have := of_decide_eq_true h; omega
              have hset := rg_set t.length S' k (S' k && kept t t.length S' k)
              have hnext := ih2 (t.length - (k + 1)) (by omega) (k + 1) (fun j => if j = k then (S' k && kept t t.length S' k) else S' j) (by omega)
                (fun j hj ha => by
                  by_cases e : j = k
                  · subst e
                    rw [if_pos rfl, q1 j hj ha, Bool.true_and]
                    rw [arr_kept t _ j hj] at ha
                    exact kept_mono t _ q1 j hj ha
                  · rw [if_neg e]; exact q1 j hj ha)
                (fun j hj hs => by
                  by_cases e : j = k
                  · subst e
                    rw [if_pos rfl, Bool.and_eq_true] at hs
                    exact q2 j hj hs.1
                  · rw [if_neg e] at hs; exact q2 j hj hs)
                (fun j hj => by rw [if_neg (by omega)]; exact q3 j (by omega))
                (fun hj => by
                  by_cases e : j0 = k
                  · subst e
                    rw [if_pos rfl]
                    cases hk2 : kept t t.length S' j0
                    · simp
                    · rw [kept_mono t _ q2 j0 hj0 hk2] at hkj0; cases hkj0
                  · rw [if_neg e]; exact q4 (by omega)) rfl
              refine PW.skip ?_
              refine PW.to [0, 3, 5] [(0, .slice (is t) t.length f), (3, .msl H.length 0 0 t.length 1 true), (5, .int .i64 (k : Int))] (H ++ [⟨4, 0, fs (rg t.length fun j => if j = k then (S' k && kept t t.length S' k) else S' j)⟩]) ?_ ?_
              · clear hnext ih2 ih
                (repeat refine PW.seq ?_); refine PW.block ?_
                (repeat refine PW.seq ?_); refine PW.rg rfl fun K hK => ?_
                cases hSk : S' k
                · rw [hSk, Bool.false_and] at hset
                  simp (maxSteps := 3000000) (disch := omega) only [go_sem, ↓reduceIte, reduceCtorEq, pappend, plen, rg_cell, rg_len, fs_len, hSk, hset]
                  (repeat' ((first | refine VO_cond (fun h => ?_) (fun h => ?_) | refine VOd_cond (fun h => ?_) (fun h => ?_) | refine VOg_cond (fun h => ?_) (fun h => ?_) | refine VOh_cond (fun h => ?_) (fun h => ?_) | refine VOi_cond (fun h => ?_) (fun h => ?_) | refine And.intro (fun h => ?_) (fun h => ?_)) <;> (try simp only [Bool.not_eq_true', Bool.not_eq_false', decide_eq_true_eq, decide_eq_false_iff_not] at h) <;> simp (maxSteps := 3000000) (disch := omega) only [go_sem, ↓reduceIte, reduceCtorEq, pappend, plen, rg_cell, rg_len, fs_len, hSk, hset, h]))
                  refine hK _ _ ⟨rfl, ?_⟩
                  rw [hSk, Bool.false_and]
                · rw [hSk, Bool.true_and] at hset
                  simp (maxSteps := 3000000) (disch := omega) only [go_sem, ↓reduceIte, reduceCtorEq, pappend, plen, rg_cell, rg_len, fs_len, hSk, hset]
                  (repeat' (first | ((first | refine VO_cond (fun h => ?_) (fun h => ?_) | refine VOd_cond (fun h => ?_) (fun h => ?_) | refine VOg_cond (fun h => ?_) (fun h => ?_) | refine VOh_cond (fun h => ?_) (fun h => ?_) | refine VOi_cond (fun h => ?_) (fun h => ?_) | refine And.intro (fun h => ?_) (fun h => ?_)) <;> (try simp only [Bool.not_eq_true', Bool.not_eq_false', decide_eq_true_eq, decide_eq_false_iff_not] at h) <;> simp (maxSteps := 3000000) (disch := omega) only [go_sem, ↓reduceIte, reduceCtorEq, pappend, plen, rg_cell, rg_len, fs_len, hSk, hset, h]) | (refine VCx.call (hkept S' k h5) rfl ?_; simp (maxSteps := 3000000) (disch := omega) only [go_sem, ↓reduceIte, reduceCtorEq, pappend, plen, rg_cell, rg_len, fs_len, hSk, hset]) | (refine VCy.call (hkept S' k h5) rfl ?_; simp (maxSteps := 3000000) (disch := omega) only [go_sem, ↓reduceIte, reduceCtorEq, pappend, plen, rg_cell, rg_len, fs_len, hSk, hset]) | (refine VCz.call (fun _ => hkept S' k h5) rfl ?_; simp (maxSteps := 3000000) (disch := omega) only [go_sem, ↓reduceIte, reduceCtorEq, pappend, plen, rg_cell, rg_len, fs_len, hSk, hset]) | (refine VCk.call (fun _ _ => hkept S' k h5) rfl ?_; simp (maxSteps := 3000000) (disch := omega) only [go_sem, ↓reduceIte, reduceCtorEq, pappend, plen, rg_cell, rg_len, fs_len, hSk, hset])))
                  refine hK _ _ ⟨rfl, ?_⟩
                  rw [hSk, Bool.true_and]
              (repeat refine PW.seq ?_); refine PW.rg rfl fun K hK => ?_; simp (maxSteps := 3000000) (disch := omega) only [go_sem, ↓reduceIte, reduceCtorEq, pappend, plen]; refine hK _ _ ?_; clear hK K
              exact PL.at [0, 3, 5] hnext rfl rfl
            · refine PW.exit ?_
              have h5 : k = t.length := by have := of_decide_eq_false h; omega
              exact PL.at [0, 3] (ih (cnt t.length S') (by rw [← hm]; exact cnt_lt S S' t.length q2 ⟨j0, hj0, hSj0, q4 (by omega)⟩) S' q1 rfl) rfl rfl
        · have h4 : clo t t.length S = true := by simpa using h
          refine PW.exit ?_
          have e : rg t.length S = rg t.length (arr t t.length) := rg_ext t.length (fun j hj => by
            rw [Bool.eq_iff_iff]
            exact ⟨arr_great t t.length S (clo_true.1 h4) j hj, hS j hj⟩)
          rw [e]
          (repeat refine PW.seq ?_); refine PW.rg rfl fun K hK => ?_; simp (maxSteps := 3000000) (disch := omega) only [go_sem, ↓reduceIte, reduceCtorEq, pappend, plen]; refine hK _ _ ?_; clear hK K
          refine PW.ret ⟨_, rfl, ?_⟩
          exact Fin.base (Fz.mslC (e := 4) (xs := fs (rg t.length (arr t t.length))) (Nat.le_refl _) (by simp) (by rw [fs_len, rg_len]; omega) (FzC.refl (fs_scoped _ _)))

theorem bools_ok (a b : List Bool) (f g : Bool) (H : Heap) (ha : a.length ≤ 1000000) (hb : b.length ≤ 1000000) : CallOk Try.prog 35 [.slice (fs a) a.length f, .slice (fs b) b.length g] H (.bool (decide (a = b))) H := by
  refine CallOk.body (F0 := [(0, .slice (fs a) a.length f), (1, .slice (fs b) b.length g)]) Try.func35 rfl Try.ntmps35 Try.results35 rfl (by kernel_rfl) rfl ?_
  (repeat refine PW.seq ?_); refine PW.rg rfl fun K hK => ?_; simp (maxSteps := 3000000) (disch := omega) only [go_sem, ↓reduceIte, reduceCtorEq, pappend, plen]; refine hK _ _ ?_; clear hK K; (repeat refine PW.seq ?_); refine PW.rg rfl fun K hK => ?_; simp (maxSteps := 3000000) (disch := omega) only [go_sem, ↓reduceIte, reduceCtorEq, pappend, plen]; refine hK _ _ ?_; clear hK K
  (repeat refine PW.seq ?_); refine PW.cond (t := _) rfl (fun h => ?_) (fun h => ?_)
  · have h4 : a.length ≠ b.length := by simp at h; omega
    (repeat refine PW.seq ?_); refine PW.rg rfl fun K hK => ?_; simp (maxSteps := 3000000) (disch := omega) only [go_sem, ↓reduceIte, reduceCtorEq, pappend, plen]; refine hK _ _ ?_; clear hK K
    refine PW.ret ⟨_, rfl, ?_⟩
    rw [decide_eq_false (fun e => h4 (by rw [e]))]
    exact Fin.now
  have h4 : a.length = b.length := by simp at h; omega
  refine PW.skip ?_
  (repeat refine PW.seq ?_); refine PW.rg rfl fun K hK => ?_; simp (maxSteps := 3000000) (disch := omega) only [go_sem, ↓reduceIte, reduceCtorEq, pappend, plen]; refine hK _ _ ?_; clear hK K
  (repeat refine PW.seq ?_); refine PW.block (PW.loop ?_)
  suffices hloop : ∀ (k : Nat), k ≤ a.length → (∀ j, j < k → flagAt a j = flagAt b j) → PL Try.prog _ _ [(0, .slice (fs a) a.length f), (1, .slice (fs b) b.length g), (12, .int .i64 (a.length : Int)), (13, .int .i64 (k : Int))] H _ by
    exact PL.at [0, 1, 12, 13] (hloop 0 (Nat.zero_le _) (fun j hj => by omega)) rfl rfl
  intro k hk hall
  induction hm : a.length - k using Nat.strongRecOn generalizing k with
  | _ m ih =>
    refine PL.round ?_; (repeat refine PW.seq ?_); refine PW.rg rfl fun K hK => ?_; simp (maxSteps := 3000000) (disch := omega) only [go_sem, ↓reduceIte, reduceCtorEq, pappend, plen]; refine hK _ _ ?_; clear hK K
    (repeat refine PW.seq ?_); refine PW.cond (t := _) rfl (fun h => ?_) (fun h => ?_)
    · have h5 : k < a.length := by have := of_decide_eq_true h; omega
      refine PW.skip ?_
      (repeat refine PW.seq ?_); refine PW.block ?_
      (repeat refine PW.seq ?_); refine PW.rg rfl fun K hK => ?_; simp (maxSteps := 3000000) (disch := omega) only [go_sem, ↓reduceIte, reduceCtorEq, pappend, plen]; refine hK _ _ ?_; clear hK K
      (repeat refine PW.seq ?_); refine PW.draw mix (by kernel_rfl) fun K hK => ?_; simp (maxSteps := 3000000) (disch := omega) only [go_sem, ↓reduceIte, reduceCtorEq, pappend, plen, fs_get, fs_len]; refine hK _ _ ?_; clear hK K
      (repeat refine PW.seq ?_); refine PW.cond (t := _) rfl (fun h => ?_) (fun h => ?_)
      · have h6 : flagAt a k ≠ flagAt b k := by intro e; rw [e] at h; cases hb : flagAt b k <;> rw [hb] at h <;> cases h
        (repeat refine PW.seq ?_); refine PW.rg rfl fun K hK => ?_; simp (maxSteps := 3000000) (disch := omega) only [go_sem, ↓reduceIte, reduceCtorEq, pappend, plen]; refine hK _ _ ?_; clear hK K
        refine PW.ret ⟨_, rfl, ?_⟩
        rw [decide_eq_false (fun e => h6 (by rw [e]))]
        exact Fin.now
      · have h6 : flagAt a k = flagAt b k := by cases ha : flagAt a k <;> cases hb : flagAt b k <;> rw [ha, hb] at h <;> first | rfl | cases h
        refine PW.skip ?_
        (repeat refine PW.seq ?_); refine PW.rg rfl fun K hK => ?_; simp (maxSteps := 3000000) (disch := omega) only [go_sem, ↓reduceIte, reduceCtorEq, pappend, plen]; refine hK _ _ ?_; clear hK K
        refine PL.at [0, 1, 12, 13] (ih (a.length - (k + 1)) (by omega) (k + 1) (by omega) (fun j hj => ?_) rfl) rfl rfl
        by_cases e : j = k
        · subst e; exact h6
        · exact hall j (by omega)
    · have h5 : k = a.length := by have := of_decide_eq_false h; omega
      subst h5
      refine PW.exit ?_
      (repeat refine PW.seq ?_); refine PW.rg rfl fun K hK => ?_; simp (maxSteps := 3000000) (disch := omega) only [go_sem, ↓reduceIte, reduceCtorEq, pappend, plen]; refine hK _ _ ?_; clear hK K
      refine PW.ret ⟨_, rfl, ?_⟩
      have : a = b := by
        apply List.ext_getElem?
        intro j
        by_cases hj : j < a.length
        · have := hall j hj
          simp only [flagAt, List.getD, List.getElem?_eq_getElem hj, List.getElem?_eq_getElem (h4 ▸ hj : j < b.length), Option.getD_some] at this
          rw [List.getElem?_eq_getElem hj, List.getElem?_eq_getElem (h4 ▸ hj : j < b.length), this]
        · rw [List.getElem?_eq_none (by omega), List.getElem?_eq_none (by omega)]
      rw [decide_eq_true this]
      exact Fin.now

end Go.Proofs.Ytnjnikafhbholaa.Sc

namespace Go.Proofs.Ytnjnikafhbholaa.Sc
set_option linter.all false
set_option linter.unusedVariables false
set_option linter.unusedSimpArgs false
open Pm Ty Go.RowKit
open Pl (Pa Sh PF PaL PaOk arr sh kd adj st en pts cpd jn ext shm shn tys bump lastC bump_snoc lastC_snoc)

/-- Where runs begin. -/
def isF (l : List (Option Sh)) (i : Nat) : Bool := isS l i && decide (st l i = i)
def fb (l : List (Option Sh)) (n c : Nat) : List Bool := rg n fun i => decide (i < c) && isF l i
theorem fb_len (l : List (Option Sh)) (n c : Nat) : (fs (fb l n c)).length = n := by unfold fb; rw [fs_len, rg_len]
theorem fb_zero (l : List (Option Sh)) (n : Nat) : fs (fb l n 0) = (List.replicate n [PV.bool false]).flatten := by
  unfold fb
  rw [rg_ext n (g' := fun _ => false) (fun i _ => by simp), rg_false]; rfl
theorem fb_all (l : List (Option Sh)) (n i : Nat) (h : i < n) : (fs (fb l n n))[i]? = some (.bool (isF l i)) := by
  unfold fb
  rw [rg_cell n _ i h, decide_eq_true h, Bool.true_and]
theorem fb_none {l : List (Option Sh)} {n c : Nat} (d : Nat) (h : ∀ j, c ≤ j → j < c + d → isF l j = false) : fb l n (c + d) = fb l n c := rg_ext n fun i hi => by
  by_cases e : i < c
  · rw [decide_eq_true e, decide_eq_true (by omega : i < c + d)]
  · by_cases e2 : i < c + d
    · rw [h i (by omega) e2]; simp
    · rw [decide_eq_false e, decide_eq_false e2]
theorem fb_set (l : List (Option Sh)) (n c : Nat) (h : isF l c = true) : (fs (fb l n c)).set c (.bool true) = fs (fb l n (c + 1)) := by
  unfold fb
  rw [rg_set]
  congr 1
  exact rg_ext n fun i hi => by
    by_cases e : i = c
    · rw [if_pos e, e, h, decide_eq_true (by omega : c < c + 1)]; rfl
    · rw [if_neg e]
      by_cases e2 : i < c
      · rw [decide_eq_true e2, decide_eq_true (by omega : i < c + 1)]
      · rw [decide_eq_false e2, decide_eq_false (by omega : ¬ i < c + 1)]
/-- The flags of a run are copied in. -/
theorem cc_splice {l : List (Option Sh)} {n a e : Nat} {g : Nat → Bool} (hae : a ≤ e) (hen : e ≤ n) (h : ∀ k, a ≤ k → k < e → cpd l k = g (k - a)) : (fs (cc l n a)).take a ++ (fs (rg (e - a) g) ++ (fs (cc l n a)).drop e) = fs (cc l n e) := by
  apply List.ext_getElem?
  intro i
  have hl := cc_len l n a
  have hle := cc_len l n e
  have hg : (fs (rg (e - a) g)).length = e - a := by rw [fs_len, rg_len]
  by_cases h1 : i < a
  · rw [List.getElem?_append_left (by rw [List.length_take, hl]; omega), List.getElem?_take_of_lt h1]
    unfold cc
    rw [rg_cell n _ i (by omega), rg_cell n _ i (by omega), decide_eq_true h1, decide_eq_true (by omega : i < e)]
  · rw [List.getElem?_append_right (by rw [List.length_take, hl]; omega), List.length_take, hl, Nat.min_eq_left (by omega)]
    by_cases h2 : i < e
    · rw [List.getElem?_append_left (by omega), rg_cell (e - a) g (i - a) (by omega), ← h i (by omega) h2]
      unfold cc
      rw [rg_cell n _ i (by omega), decide_eq_true h2, Bool.true_and]
    · rw [List.getElem?_append_right (by omega), hg, List.getElem?_drop, show e + (i - a - (e - a)) = i by omega]
      by_cases h3 : i < n
      · unfold cc
        rw [rg_cell n _ i h3, rg_cell n _ i h3, decide_eq_false h1, decide_eq_false h2]
      · rw [List.getElem?_eq_none (by omega), List.getElem?_eq_none (by omega)]
/-- How the reference adds a frame. -/
theorem ext_ref {l : List (Option Sh)} {i : Nat} {q : List Pa} {p : Pa} (hq : pts l i = q ++ [p]) : ext l i (pts l i) = if (p.cp == cpd l i) && !(cpd l i && isF l i) then q ++ [{ p with len := p.len + 1 }] else (q ++ [p]) ++ [⟨cpd l i, i, 1, if cpd l i then shm (sh l i) else [], if cpd l i then shn (sh l i) else 0⟩] := by
  have hok := Pl.pts_ok l i
  rw [hq] at hok ⊢
  have hpc : ∃ a, PaOk l a i p := by
    generalize hL : q ++ [p] = L at hok
    cases hok with
    | nil => simp at hL
    | @snoc a b ps p' h hp _ _ =>
      have := List.append_inj' hL rfl
      rw [List.cons.injEq] at this
      rw [this.2.1]
      exact ⟨a, hp⟩
  obtain ⟨a, ha⟩ := hpc
  have hlt := ha.lt
  unfold ext
  rw [lastC_snoc, bump_snoc]
  cases hc : cpd l i with
  | false => cases hp : p.cp <;> simp
  | true =>
    obtain ⟨x, hx⟩ := Pl.cpd_some hc
    have his : isF l i = decide (st l i = i) := by unfold isF isS; rw [hx]; rfl
    have hst := Pl.st_le l i
    have hjn : jn l i = (decide (st l i < i) && p.cp) := by
      unfold jn
      rw [hc, Bool.and_true]
      congr 1
      cases hp : p.cp with
      | false => exact (ha.cd hp).2.2 (i - 1) (by omega) (by omega)
      | true => exact (ha.cc hp (i - 1) (by omega) (by omega)).1
    rw [hjn, his]
    by_cases h1 : st l i = i
    · rw [decide_eq_false (by omega : ¬ st l i < i), decide_eq_true h1]; simp
    · rw [decide_eq_true (by omega : st l i < i), decide_eq_false h1]
      cases p.cp <;> simp
theorem hp4 (H K : Heap) (a b c d e : Blk) : (H ++ a :: b :: c :: d :: e :: K)[H.length + 4]? = some e := by
  rw [List.getElem?_append_right (by omega), show H.length + 4 - H.length = 4 by omega]; rfl
theorem hs4 (H K : Heap) (a b c d e x : Blk) : (H ++ a :: b :: c :: d :: e :: K).set (H.length + 4) x = H ++ a :: b :: c :: d :: x :: K := by
  rw [List.set_append_right _ _ (by omega), show H.length + 4 - H.length = 4 by omega]; rfl
theorem hp5' (H K : Heap) (a b c d e f : Blk) : (H ++ a :: b :: c :: d :: e :: f :: K)[H.length + 5]? = some f := by
  rw [List.getElem?_append_right (by omega), show H.length + 5 - H.length = 5 by omega]; rfl
theorem hs5' (H K : Heap) (a b c d e f x : Blk) : (H ++ a :: b :: c :: d :: e :: f :: K).set (H.length + 5) x = H ++ a :: b :: c :: d :: e :: x :: K := by
  rw [List.set_append_right _ _ (by omega), show H.length + 5 - H.length = 5 by omega]; rfl
theorem hp6' (H K : Heap) (a b c d e f g : Blk) : (H ++ a :: b :: c :: d :: e :: f :: g :: K)[H.length + 6]? = some g := by
  rw [List.getElem?_append_right (by omega), show H.length + 6 - H.length = 6 by omega]; rfl
theorem hs6' (H K : Heap) (a b c d e f g x : Blk) : (H ++ a :: b :: c :: d :: e :: f :: g :: K).set (H.length + 6) x = H ++ a :: b :: c :: d :: e :: f :: x :: K := by
  rw [List.set_append_right _ _ (by omega), show H.length + 6 - H.length = 6 by omega]; rfl
theorem ext_ref0 {l : List (Option Sh)} : pts l 1 = [⟨cpd l 0, 0, 1, if cpd l 0 then shm (sh l 0) else [], if cpd l 0 then shn (sh l 0) else 0⟩] := by
  simp only [pts, ext]
  have hj : jn l 0 = false := by unfold jn; simp
  rw [hj]
  cases cpd l 0 <;> rfl

set_option maxRecDepth 100000 in
set_option maxHeartbeats 8000000 in
theorem refMake_ok (f : Fl) (hf : FlM f) (hnm : ∀ x ∈ f.me, x.nm ≠ []) (H : Heap) : CallOk Try.prog 46 [.agg (sqc f.s), .bool f.top, .slice (f.ex.flatMap exc) f.ex.length false, .slice (f.me.flatMap ixc) f.me.length false] H (.tup [.agg [.slice ((pts (f.ex.map (shOf f.s f.top f.me)) f.ex.length).flatMap pac) (pts (f.ex.map (shOf f.s f.top f.me)) f.ex.length).length false], .int .i64 0]) H := by
  have hfs := flS_ok _ hf hnm
  have vo := fun K => vseq_ref f.s K hf.ok
  rw [hf.vs] at vo
  have co := cand_ok f hf
  have ls := sqc_len f.s hf.s
  have cs := sqc_c f.s
  have ts : (sqc f.s).take 135 = sqc f.s := List.take_of_length_le (by omega)
  have hM : ∀ x ∈ f.me, SqL x.sq := fun x hx => (hf.ix x hx).1
  have hfn := hf.n
  have hfm := hf.me
  have hlM := ixl_len f.me hM
  have c1 := exl_len f.ex
  have s1 := fun n => exl_sc n f.ex hf.ex
  generalize f.ex.map (shOf f.s f.top f.me) = l at *
  have hll := hfs.len
  have hPB := pts_PB l
  have hrc := rg_cell f.ex.length (isS l)
  have hl6 : (fs (rg f.ex.length (isS l))).length = f.ex.length := by rw [fs_len, rg_len]
  have hcl := cc_len l f.ex.length
  have hfl := fb_len l f.ex.length
  refine CallOk.body (F0 := [(0, .agg (sqc f.s)), (1, .bool f.top), (2, .slice (f.ex.flatMap exc) f.ex.length false), (3, .slice (f.me.flatMap ixc) f.me.length false)]) Try.func46 rfl Try.ntmps46 Try.results46 rfl (by kernel_rfl) rfl ?_
  (repeat refine PW.seq ?_); refine PW.rg rfl fun K hK => ?_; simp (maxSteps := 3000000) (disch := omega) only [go_sem, ↓reduceIte, reduceCtorEq, pappend, plen, cs]; refine hK _ _ ?_; clear hK K
  (repeat refine PW.seq ?_); refine PW.rg rfl fun K hK => ?_; simp (maxSteps := 3000000) (disch := omega) only [go_sem, ↓reduceIte, reduceCtorEq, pappend, plen, ls, ts]; refine VCx.call (vo _) rfl ?_; simp (maxSteps := 3000000) (disch := omega) only [go_sem, ↓reduceIte, reduceCtorEq, pappend, plen, ls, ts]; refine hK _ _ ?_; clear hK K
  (repeat refine PW.seq ?_); refine PW.cond (t := _) rfl (fun h => ?_) (fun h => ?_)
  · cases h
  refine PW.skip ?_
  (repeat refine PW.seq ?_); refine PW.rg rfl fun K hK => ?_; simp (maxSteps := 3000000) (disch := omega) only [go_sem, ↓reduceIte, reduceCtorEq, pappend, plen]; refine hK _ _ ?_; clear hK K
  (repeat refine PW.seq ?_); refine PW.cond (t := _) rfl (fun h => ?_) (fun h => ?_)
  · cases h
  refine PW.skip ?_
  (repeat refine PW.seq ?_); refine PW.rg rfl fun K hK => ?_; simp (maxSteps := 3000000) (disch := omega) only [go_sem, ↓reduceIte, reduceCtorEq, pappend, plen, ls, ts]; refine VCx.call (co _) rfl ?_; simp (maxSteps := 3000000) (disch := omega) only [go_sem, ↓reduceIte, reduceCtorEq, pappend, plen, ls, ts]; refine hK _ _ ?_; clear hK K
  (repeat refine PW.seq ?_)
  refine PW.view (Vs.place 4) ?_
  refine PW.view (Vs.place 4) ?_
  refine PW.eq rfl (show _ = H ++ [⟨39, 0, sqc f.s⟩, ⟨71, 0, [.slice [] 0 true]⟩, ⟨4, 0, []⟩, ⟨4, 0, []⟩] by simp) ?_
  (repeat refine PW.seq ?_); refine PW.drawi [H.length + 2, H.length + 3] [(36, [0]), (39, [1]), (11, [0]), (12, [1])] [(36, 0), (39, 1)] [] mix (by kernel_rfl) (by simp <;> omega) fun K hK => ?_
  simp (maxSteps := 3000000) (disch := omega) only [go_sem, ↓reduceIte, reduceCtorEq, pappend, plen]
  refine hK _ _ ?_; clear hK K
  (repeat refine PW.seq ?_); refine PW.rg rfl fun K hK => ?_; simp (maxSteps := 3000000) (disch := omega) only [go_sem, ↓reduceIte, reduceCtorEq, pappend, plen]; refine hK _ _ ?_; clear hK K
  (repeat refine PW.seq ?_); refine PW.block (PW.loop ?_)
  suffices hl1 : ∀ i : Nat, i ≤ f.ex.length → (i = 0 ∨ adj l (i - 1) = false) → PL Try.prog _ _ [(2, .slice (f.ex.flatMap exc) f.ex.length false), (3, .slice (f.me.flatMap ixc) f.me.length false), (8, .ptr (H.length + 1) 0 0), (10, .slice (fs (rg f.ex.length (isS l))) f.ex.length false), (11, .msl (H.length + 2) 1 0 f.ex.length 1 true), (12, .msl (H.length + 3) 1 0 f.ex.length 1 true), (13, .int .i64 (i : Int))] (H ++ [⟨39, 0, sqc f.s⟩, ⟨71, 0, [.slice [] 0 true]⟩, ⟨4, 1, fs (cc l f.ex.length i)⟩, ⟨4, 1, fs (fb l f.ex.length i)⟩]) _ by
    refine PL.at [2, 3, 8, 10, 11, 12, 13] (hl1 0 (by omega) (.inl rfl)) rfl ?_
    rw [cc_zero, fb_zero]
  have hsc4 : ∀ a b, HSc H → HSc (H ++ [⟨39, 0, sqc f.s⟩, ⟨71, 0, [.slice [] 0 true]⟩, ⟨4, 1, fs (cc l f.ex.length a)⟩, ⟨4, 1, fs (fb l f.ex.length b)⟩]) := fun a b => hscU 4 (by
    intro q hq t ht
    simp only [List.mem_cons, List.not_mem_nil, or_false] at hq
    rcases hq with rfl | rfl | rfl | rfl
    · exact sqc_sc _ _ _ ht
    · simp only [List.mem_singleton] at ht
      rw [ht]; exact sl_scoped (by simp)
    · exact fs_scoped _ _ _ ht
    · exact fs_scoped _ _ _ ht)
  intro i hi hst
  induction hd : f.ex.length - i using Nat.strongRecOn generalizing i with
  | _ d ih =>
    refine PL.round ?_; (repeat refine PW.seq ?_); refine PW.rg rfl fun K hK => ?_; simp (maxSteps := 3000000) (disch := omega) only [go_sem, ↓reduceIte, reduceCtorEq, pappend, plen]; refine hK _ _ ?_; clear hK K
    (repeat refine PW.seq ?_); refine PW.cond (t := _) rfl (fun h => ?_) (fun h => ?_)
    rotate_left
    · have h4 : i = f.ex.length := by have := of_decide_eq_false h; omega
      subst h4
      clear ih
      refine PW.exit ?_
      (repeat refine PW.seq ?_); refine PW.rg rfl fun K hK => ?_; simp (maxSteps := 3000000) (disch := omega) only [go_sem, ↓reduceIte, reduceCtorEq, pappend, plen]; refine hK _ _ ?_; clear hK K
      (repeat refine PW.seq ?_); refine PW.rg rfl fun K hK => ?_; simp (maxSteps := 3000000) (disch := omega) only [go_sem, ↓reduceIte, reduceCtorEq, pappend, plen]; refine hK _ _ ?_; clear hK K
      (repeat refine PW.seq ?_)
      refine PW.view (Vs.ghostH (id := H.length + 4) (j := 0) 77 5 (hp4 _ _ _ _ _ _ _) rfl) ?_
      (repeat refine PW.seq ?_); refine PW.block (PW.loop ?_)
      suffices hl3 : ∀ i : Nat, i ≤ f.ex.length → PL Try.prog _ _ [(2, .slice (f.ex.flatMap exc) f.ex.length false), (8, .ptr (H.length + 1) 0 0), (11, .msl (H.length + 2) 1 0 f.ex.length 1 true), (12, .msl (H.length + 3) 1 0 f.ex.length 1 true), (17, .ptr (H.length + 4) 0 0), (18, .int .i64 (i : Int))] (H ++ [⟨39, 0, sqc f.s⟩, ⟨71, 0, [.slice [] 0 true]⟩, ⟨4, 1, fs (cc l f.ex.length f.ex.length)⟩, ⟨4, 1, fs (fb l f.ex.length f.ex.length)⟩, ⟨71, 0, [.msl (H.length + 5) ((pts l i).length * 5) 0 (pts l i).length 5 true]⟩, ⟨77, (pts l i).length * 5, (pts l i).flatMap pac⟩]) _ by
        refine PL.at [2, 8, 11, 12, 17, 18] (hl3 0 (by omega)) rfl ?_
        rw [hs4]
        simp [pts]
      clear hi hst hd
      intro i hi
      induction hd : f.ex.length - i using Nat.strongRecOn generalizing i with
      | _ d3 ih3 =>
        have hp5 := pal_len (pts l i)
        refine PL.round ?_; (repeat refine PW.seq ?_); refine PW.rg rfl fun K hK => ?_; simp (maxSteps := 3000000) (disch := omega) only [go_sem, ↓reduceIte, reduceCtorEq, pappend, plen]; refine hK _ _ ?_; clear hK K
        (repeat refine PW.seq ?_); refine PW.cond (t := _) rfl (fun h => ?_) (fun h => ?_)
        rotate_left
        · have h4 : i = f.ex.length := by have := of_decide_eq_false h; omega
          subst h4
          refine PW.exit ?_
          (repeat refine PW.seq ?_)
          refine PW.view (Vs.frzCell (id := H.length + 5) (id' := H.length + 4) (j := 0) (hp5' _ _ _ _ _ _ _ _) (hp4 _ _ _ _ _ _ _) (by omega) rfl hp5) ?_
          refine PW.eq rfl (show _ = H ++ [⟨39, 0, sqc f.s⟩, ⟨71, 0, [.slice [] 0 true]⟩, ⟨4, 1, fs (cc l f.ex.length f.ex.length)⟩, ⟨4, 1, fs (fb l f.ex.length f.ex.length)⟩, ⟨71, 0, [.slice ((pts l f.ex.length).flatMap pac) (pts l f.ex.length).length false]⟩, ⟨77, (pts l f.ex.length).length * 5 + 1, []⟩] by rw [hs5', hs4]; rfl) ?_
          (repeat refine PW.seq ?_); refine PW.rg rfl fun K hK => ?_; simp (maxSteps := 3000000) (disch := omega) only [go_sem, ↓reduceIte, reduceCtorEq, pappend, plen, hp1, hp4, hs1]; refine hK _ _ ?_; clear hK K
          refine PW.ret ⟨.tup [.agg [.slice ((pts l f.ex.length).flatMap pac) (pts l f.ex.length).length false], .int .i64 0], by simp (maxSteps := 3000000) (disch := omega) only [go_sem, ↓reduceIte, reduceCtorEq, pappend, plen, presults, presult, List.mapM_cons, List.mapM_nil, Option.pure_def, Option.bind_eq_bind, Option.bind_some, Array.toList, hp1], ?_⟩
          refine Fin.base (.id (.tup fun j x hx => ?_))
          have := List.mem_of_getElem? hx
          simp only [List.mem_cons, List.not_mem_nil, or_false] at this
          rcases this with rfl | rfl
          · exact ag_scoped fun x hx => by
              rw [List.mem_singleton] at hx
              rw [hx]; exact sl_scoped (pal_sc _ _)
          · exact .int _ _
        · have h4 : i < f.ex.length := by have := of_decide_eq_true h; omega
          have hci := cc_all l f.ex.length i h4
          have hfi := fb_all l f.ex.length i h4
          have hPi := hPB i
          have nx : PL Try.prog _ _ [(2, .slice (f.ex.flatMap exc) f.ex.length false), (8, .ptr (H.length + 1) 0 0), (11, .msl (H.length + 2) 1 0 f.ex.length 1 true), (12, .msl (H.length + 3) 1 0 f.ex.length 1 true), (17, .ptr (H.length + 4) 0 0), (18, .int .i64 ((i + 1 : Nat) : Int))] (H ++ [⟨39, 0, sqc f.s⟩, ⟨71, 0, [.slice [] 0 true]⟩, ⟨4, 1, fs (cc l f.ex.length f.ex.length)⟩, ⟨4, 1, fs (fb l f.ex.length f.ex.length)⟩, ⟨71, 0, [.msl (H.length + 5) ((pts l (i + 1)).length * 5) 0 (pts l (i + 1)).length 5 true]⟩, ⟨77, (pts l (i + 1)).length * 5, (pts l (i + 1)).flatMap pac⟩]) _ := ih3 (f.ex.length - (i + 1)) (by omega) (i + 1) (by omega) rfl
          have hps1 : pts l (i + 1) = ext l i (pts l i) := rfl
          refine PW.skip ?_; (repeat refine PW.seq ?_); refine PW.block ?_
          (repeat refine PW.seq ?_); refine PW.rg rfl fun K hK => ?_; simp (maxSteps := 3000000) (disch := omega) only [go_sem, ↓reduceIte, reduceCtorEq, pappend, plen, hp4, hp5']; refine hK _ _ ?_; clear hK K
          obtain ⟨b, hb⟩ : ∃ b : Bool, (b = true → ∃ q p, pts l i = q ++ [p] ∧ pts l (i + 1) = q ++ [{ p with len := p.len + 1 }]) ∧ (b = false → pts l (i + 1) = pts l i ++ [⟨cpd l i, i, 1, if cpd l i then shm (sh l i) else [], if cpd l i then shn (sh l i) else 0⟩]) ∧ ((pts l i = [] ∧ b = false) ∨ ∃ q p, pts l i = q ++ [p] ∧ b = ((p.cp == cpd l i) && !(cpd l i && isF l i))) := by
            rcases snoc_ex (pts l i) with h0 | ⟨q, p, hqp⟩
            · refine ⟨false, fun h => (by cases h), fun _ => ?_, .inl ⟨h0, rfl⟩⟩
              have hi0 : i = 0 := by
                have := Pl.pts_ok l i
                rw [h0] at this
                generalize hL : ([] : List Pa) = L at this
                cases this with
                | nil => rfl
                | snoc _ _ _ _ => simp at hL
              subst hi0
              rw [ext_ref0]
              rfl
            · have he := ext_ref hqp
              refine ⟨(p.cp == cpd l i) && !(cpd l i && isF l i), fun hb => ⟨q, p, hqp, ?_⟩, fun hb => ?_, .inr ⟨q, p, hqp, rfl⟩⟩
              · rw [hps1, he, if_pos hb]
              · rw [hps1, he, if_neg (by rw [hb]; decide), hqp]
          obtain ⟨hb1, hb2, hb3⟩ := hb
          (repeat refine PW.seq ?_)
          refine PW.meet [2, 8, 11, 12, 17, 18, 19, 165] [(2, .slice (f.ex.flatMap exc) f.ex.length false), (8, .ptr (H.length + 1) 0 0), (11, .msl (H.length + 2) 1 0 f.ex.length 1 true), (12, .msl (H.length + 3) 1 0 f.ex.length 1 true), (17, .ptr (H.length + 4) 0 0), (18, .int .i64 (i : Int)), (19, .int .i64 ((pts l i).length : Int)), (165, .bool b)] (H ++ [⟨39, 0, sqc f.s⟩, ⟨71, 0, [.slice [] 0 true]⟩, ⟨4, 1, fs (cc l f.ex.length f.ex.length)⟩, ⟨4, 1, fs (fb l f.ex.length f.ex.length)⟩, ⟨71, 0, [.msl (H.length + 5) ((pts l i).length * 5) 0 (pts l i).length 5 true]⟩, ⟨77, (pts l i).length * 5, (pts l i).flatMap pac⟩]) ?_ ?_
          · rcases hb3 with ⟨h0, rfl⟩ | ⟨q, p, hqp, hbv⟩
            · rw [h0]
              (repeat refine PW.seq ?_); refine PW.draw mix (by kernel_rfl) fun K hK => ?_; simp (maxSteps := 3000000) (disch := omega) only [go_sem, ↓reduceIte, reduceCtorEq, pappend, plen]
              refine hK _ _ ?_; clear hK K
              exact ⟨rfl, rfl⟩
            · have hlq : (pts l i).length = q.length + 1 := by rw [hqp]; simp
              have hA := pal_len q
              obtain ⟨g0, g2, s2⟩ := five_at (q.flatMap pac) q.length hA (.bool p.cp) (.int .i64 p.film) (.int .i64 p.len) (.str p.m) (.int .i64 p.fr)
              have hcat : (pts l i).flatMap pac = q.flatMap pac ++ [.bool p.cp, .int .i64 p.film, .int .i64 p.len, .str p.m, .int .i64 p.fr] := by rw [hqp, pal_snoc]
              have e1 : ((q.length + 1 : Nat) : Int) - 1 = (q.length : Int) := by omega
              have d1 : decide (0 < ((q.length + 1 : Nat) : Int)) = true := decide_eq_true (by omega)
              rw [hcat] at hp5
              have hPi2 := hPi.2
              rw [hlq] at hp5 hPi2 ⊢
              rw [hcat]
              clear nx ih3
              rw [hbv]
              generalize hcv : cpd l i = cv at *
              generalize hfv : isF l i = fv at *
              generalize hpv : p.cp = pv at *
              cases cv <;> cases fv <;> cases pv <;> ((repeat refine PW.seq ?_); refine PW.draw mix (by kernel_rfl) fun K hK => ?_; simp (maxSteps := 3000000) (disch := omega) only [go_sem, ↓reduceIte, reduceCtorEq, pappend, plen, d1, e1, hp4, hp5', hp2, hp3, hp5, g0, hci, hfi, hcl, hfl]; refine hK _ _ ?_; clear hK K; exact ⟨rfl, rfl⟩)
          (repeat refine PW.seq ?_); refine PW.cond (t := _) rfl (fun h => ?_) (fun h => ?_)
          · obtain ⟨q, p, hqp, hnew⟩ := hb1 h
            have hlq : (pts l i).length = q.length + 1 := by rw [hqp]; simp
            have hA := pal_len q
            obtain ⟨g0, g2, s2⟩ := five_at (q.flatMap pac) q.length hA (.bool p.cp) (.int .i64 p.film) (.int .i64 p.len) (.str p.m) (.int .i64 p.fr)
            have hcat : (pts l i).flatMap pac = q.flatMap pac ++ [.bool p.cp, .int .i64 p.film, .int .i64 p.len, .str p.m, .int .i64 p.fr] := by rw [hqp, pal_snoc]
            have e1 : ((q.length + 1 : Nat) : Int) - 1 = (q.length : Int) := by omega
            have hPi2 := hPi.2
            have hpl := hPi.1 p (by rw [hqp]; simp)
            have hnl : (pts l (i + 1)).length = q.length + 1 := by rw [hnew]; simp
            have hncat : (pts l (i + 1)).flatMap pac = q.flatMap pac ++ [.bool p.cp, .int .i64 p.film, .int .i64 (p.len + 1), .str p.m, .int .i64 p.fr] := by rw [hnew, pal_snoc]
            rw [hcat] at hp5
            rw [hlq] at hp5 hPi2 ⊢
            rw [hcat]
            rw [hnl, hncat] at nx
            (repeat refine PW.seq ?_); refine PW.rg rfl fun K hK => ?_; simp (maxSteps := 3000000) (disch := omega) only [go_sem, ↓reduceIte, reduceCtorEq, pappend, plen, hp4, hp5', hs5', hp5, g2, s2, e1]; refine hK _ _ ?_; clear hK K
            refine PW.exit ?_
            (repeat refine PW.seq ?_); refine PW.rg rfl fun K hK => ?_; simp (maxSteps := 3000000) (disch := omega) only [go_sem, ↓reduceIte, reduceCtorEq, pappend, plen]; refine hK _ _ ?_; clear hK K
            exact PL.at [2, 8, 11, 12, 17, 18] nx rfl rfl
          · have hnew := hb2 h
            have hPi2 := hPi.2
            refine PW.skip ?_
            (repeat refine PW.seq ?_); refine PW.rg rfl fun K hK => ?_; simp (maxSteps := 3000000) (disch := omega) only [go_sem, ↓reduceIte, reduceCtorEq, pappend, plen]; refine hK _ _ ?_; clear hK K
            (repeat refine PW.seq ?_); refine PW.rg rfl fun K hK => ?_; simp (maxSteps := 3000000) (disch := omega) only [go_sem, ↓reduceIte, reduceCtorEq, pappend, plen, hp2, hci, hcl]; refine hK _ _ ?_; clear hK K
            refine PW.meet [2, 8, 11, 12, 17, 18, 20] [(2, .slice (f.ex.flatMap exc) f.ex.length false), (8, .ptr (H.length + 1) 0 0), (11, .msl (H.length + 2) 1 0 f.ex.length 1 true), (12, .msl (H.length + 3) 1 0 f.ex.length 1 true), (17, .ptr (H.length + 4) 0 0), (18, .int .i64 (i : Int)), (20, .ptr (H.length + 6) 0 0)] (H ++ [⟨39, 0, sqc f.s⟩, ⟨71, 0, [.slice [] 0 true]⟩, ⟨4, 1, fs (cc l f.ex.length f.ex.length)⟩, ⟨4, 1, fs (fb l f.ex.length f.ex.length)⟩, ⟨71, 0, [.msl (H.length + 5) ((pts l i).length * 5) 0 (pts l i).length 5 true]⟩, ⟨77, (pts l i).length * 5, (pts l i).flatMap pac⟩, ⟨77, 0, [.bool (cpd l i), .int .i64 (i : Int), .int .i64 1, .str (if cpd l i then shm (sh l i) else []), .int .i64 (if cpd l i then shn (sh l i) else 0)]⟩]) ?_ ?_
            · (repeat refine PW.seq ?_); refine PW.cond (t := _) rfl (fun h => ?_) (fun h => ?_)
              · have hc : cpd l i = true := by simpa using h
                obtain ⟨y, hy⟩ := Pl.cpd_some hc
                obtain ⟨y1, y2, _⟩ := hfs.sh i y hy
                obtain ⟨gy1, gy2, _⟩ := ex_at1 y1
                rw [y2] at gy1 gy2
                dsimp only at gy1 gy2
                rw [hc, hy]
                (repeat refine PW.seq ?_); refine PW.drawi [H.length + 6] [(20, [0]), (192, [0]), (193, [0]), (194, [0])] [] [] mix (by kernel_rfl) (by simp <;> omega) fun K hK => ?_
                simp (maxSteps := 3000000) (disch := omega) only [go_sem, ↓reduceIte, reduceCtorEq, pappend, plen, gy1, gy2, c1, hp6', hs6']
                refine hK _ _ ?_; clear hK K
                exact ⟨rfl, rfl⟩
              · have hc : cpd l i = false := by simpa using h
                rw [hc]
                exact PW.skip ⟨rfl, rfl⟩
            have hnl : (pts l (i + 1)).length = (pts l i).length + 1 := by rw [hnew]; simp
            have hncat : (pts l (i + 1)).flatMap pac = (pts l i).flatMap pac ++ [.bool (cpd l i), .int .i64 (i : Int), .int .i64 1, .str (if cpd l i then shm (sh l i) else []), .int .i64 (if cpd l i then shn (sh l i) else 0)] := by rw [hnew, pal_snoc]
            have e5 : (pts l i).length * 5 + (0 + 1 + 1 + 1 + 1 + 1) = ((pts l i).length + 1) * 5 := by omega
            have e5' : (pts l i).length * 5 + 5 = ((pts l i).length + 1) * 5 := by omega
            (repeat refine PW.seq ?_); refine PW.rg rfl fun K hK => ?_; simp (maxSteps := 3000000) (disch := omega) only [go_sem, ↓reduceIte, reduceCtorEq, pappend, plen, hp4, hs4, hp5', hs5', hp6', hp5, List.length_append]; refine hK _ _ ?_; clear hK K
            (repeat refine PW.seq ?_); refine PW.rg rfl fun K hK => ?_; simp (maxSteps := 3000000) (disch := omega) only [go_sem, ↓reduceIte, reduceCtorEq, pappend, plen]; refine hK _ _ ?_; clear hK K
            simp only [e5, e5']
            rw [hnl, hncat] at nx
            refine PL.view (Vs.trim (H1 := H ++ [⟨39, 0, sqc f.s⟩, ⟨71, 0, [.slice [] 0 true]⟩, ⟨4, 1, fs (cc l f.ex.length f.ex.length)⟩, ⟨4, 1, fs (fb l f.ex.length f.ex.length)⟩, ⟨71, 0, [.msl (H.length + 5) (((pts l i).length + 1) * 5) 0 ((pts l i).length + 1) 5 true]⟩, ⟨77, ((pts l i).length + 1) * 5, (pts l i).flatMap pac ++ [.bool (cpd l i), .int .i64 (i : Int), .int .i64 1, .str (if cpd l i then shm (sh l i) else []), .int .i64 (if cpd l i then shn (sh l i) else 0)]⟩]) (F1 := [(2, .slice (f.ex.flatMap exc) f.ex.length false), (8, .ptr (H.length + 1) 0 0), (11, .msl (H.length + 2) 1 0 f.ex.length 1 true), (12, .msl (H.length + 3) 1 0 f.ex.length 1 true), (17, .ptr (H.length + 4) 0 0), (18, .int .i64 ((i + 1 : Nat) : Int))]) (hscU 6 ?_) (by simp) (List.append_assoc _ [_, _, _, _, _, _] [_]).symm ?_) nx
            · intro q hq t ht
              simp only [List.mem_cons, List.not_mem_nil, or_false] at hq
              rcases hq with rfl | rfl | rfl | rfl | rfl | rfl
              · exact sqc_sc _ _ _ ht
              · simp only [List.mem_singleton] at ht
                rw [ht]; exact sl_scoped (by simp)
              · exact fs_scoped _ _ _ ht
              · exact fs_scoped _ _ _ ht
              · simp only [List.mem_singleton] at ht
                rw [ht]; exact .msl (by simp)
              · rw [← hncat] at ht; exact pal_sc _ _ _ ht
            · rw [List.length_append]
              simp only [List.length_cons, List.length_nil]
              exact ⟨.id (sl_scoped (s1 _)), .id (.ptr (by omega)), .id (.msl (by omega)), .id (.msl (by omega)), .id (.ptr (by omega)), .id (.int _ _), trivial⟩
    · have h4 : i < f.ex.length := by have := of_decide_eq_true h; omega
      have hgi := hrc i h4
      have hsti : st l i = i := Pl.st_uniq (Nat.le_refl _) (fun j a b => by omega) hst
      refine PW.skip ?_; (repeat refine PW.seq ?_); refine PW.block ?_
      (repeat refine PW.seq ?_); refine PW.rg rfl fun K hK => ?_; simp (maxSteps := 3000000) (disch := omega) only [go_sem, ↓reduceIte, reduceCtorEq, pappend, plen, hgi, hl6]; refine hK _ _ ?_; clear hK K
      cases hx : sh l i with
      | none =>
        have hg0 : isS l i = false := by unfold isS; rw [hx]; rfl
        rw [hg0]
        (repeat refine PW.seq ?_); refine PW.cond (t := _) rfl (fun h => ?_) (fun h => ?_)
        rotate_left
        · cases h
        (repeat refine PW.seq ?_); refine PW.rg rfl fun K hK => ?_; simp (maxSteps := 3000000) (disch := omega) only [go_sem, ↓reduceIte, reduceCtorEq, pappend, plen]; refine hK _ _ ?_; clear hK K
        refine PW.exit ?_
        refine PL.at [2, 3, 8, 10, 11, 12, 13] (ih (f.ex.length - (i + 1)) (by omega) (i + 1) (by omega) (.inr ?_) rfl) rfl ?_
        · cases hh : adj l (i + 1 - 1) with
          | false => rfl
          | true =>
            obtain ⟨x, y, q, _⟩ := Pl.adj_ex hh
            rw [Nat.add_sub_cancel, hx] at q
            cases q
        · rw [cc_coded (c := i) 1 (fun j a b => by rw [show j = i by omega]; exact Pl.cpd_none hx), fb_none (c := i) 1 (fun j a b => by rw [show j = i by omega]; unfold isF; rw [hg0]; rfl)]
      | some x =>
        have hg0 : isS l i = true := by unfold isS; rw [hx]; rfl
        obtain ⟨i1, i2, q, hfq, hqm, hux, hkx⟩ := hfs.sh i x hx
        obtain ⟨gi1, gi2, _⟩ := ex_at1 i1
        rw [i2] at gi1 gi2
        dsimp only at gi1 gi2
        have hnbi := hfs.nb i x hx
        rw [hg0]
        (repeat refine PW.seq ?_); refine PW.cond (t := _) rfl (fun h => ?_) (fun h => ?_)
        · cases h
        refine PW.skip ?_
        (repeat refine PW.seq ?_); refine PW.rg rfl fun K hK => ?_; simp (maxSteps := 3000000) (disch := omega) only [go_sem, ↓reduceIte, reduceCtorEq, pappend, plen]; refine hK _ _ ?_; clear hK K
        (repeat refine PW.seq ?_); refine PW.rg rfl fun K hK => ?_; simp (maxSteps := 3000000) (disch := omega) only [go_sem, ↓reduceIte, reduceCtorEq, pappend, plen]; refine hK _ _ ?_; clear hK K
        (repeat refine PW.seq ?_)
        refine PW.view (Vs.ghost 15 3 1 rfl) ?_
        (repeat refine PW.seq ?_); refine PW.block (PW.loop ?_)
        have hen := Pl.en_spec l i
        have hle := Pl.en_le (l := l) (i := i) (by omega)
        suffices hl2 : ∀ k : Nat, i ≤ k → k ≤ en l i → PL Try.prog _ _ [(2, .slice (f.ex.flatMap exc) f.ex.length false), (3, .slice (f.me.flatMap ixc) f.me.length false), (8, .ptr (H.length + 1) 0 0), (10, .slice (fs (rg f.ex.length (isS l))) f.ex.length false), (11, .msl (H.length + 2) 1 0 f.ex.length 1 true), (12, .msl (H.length + 3) 1 0 f.ex.length 1 true), (13, .int .i64 (i : Int)), (14, .int .i64 (k : Int)), (15, .msl (H.length + 4) (k - i) 0 (k - i) 1 true)] (H ++ [⟨39, 0, sqc f.s⟩, ⟨71, 0, [.slice [] 0 true]⟩, ⟨4, 1, fs (cc l f.ex.length i)⟩, ⟨4, 1, fs (fb l f.ex.length i)⟩, ⟨3, k - i, is (tys l i k)⟩]) _ by
          refine PL.at [2, 3, 8, 10, 11, 12, 13, 14, 15] (hl2 i (by omega) (by omega)) ?_ ?_
          · simp only [Nat.sub_self]
            simp (maxSteps := 3000000) (disch := omega) only [go_sem, ↓reduceIte, reduceCtorEq, pappend, plen, List.length_append]
          · simp [tys, is]
        intro k hk1 hk2
        induction hd2 : en l i - k using Nat.strongRecOn generalizing k with
        | _ d2 ih2 =>
          have htl : (is (tys l i k)).length = k - i := by rw [is_len, Pl.tys_len]
          refine PL.round ?_
          have e3 : x.n + ((k : Int) - (i : Int)) = x.n + ((k - i : Nat) : Int) := by omega
          (repeat refine PW.seq ?_)
          refine PW.meet [2, 3, 8, 10, 11, 12, 13, 14, 15, 91] [(2, .slice (f.ex.flatMap exc) f.ex.length false), (3, .slice (f.me.flatMap ixc) f.me.length false), (8, .ptr (H.length + 1) 0 0), (10, .slice (fs (rg f.ex.length (isS l))) f.ex.length false), (11, .msl (H.length + 2) 1 0 f.ex.length 1 true), (12, .msl (H.length + 3) 1 0 f.ex.length 1 true), (13, .int .i64 (i : Int)), (14, .int .i64 (k : Int)), (15, .msl (H.length + 4) (k - i) 0 (k - i) 1 true), (91, .bool (decide (k < en l i)))] (H ++ [⟨39, 0, sqc f.s⟩, ⟨71, 0, [.slice [] 0 true]⟩, ⟨4, 1, fs (cc l f.ex.length i)⟩, ⟨4, 1, fs (fb l f.ex.length i)⟩, ⟨3, k - i, is (tys l i k)⟩]) ?_ ?_
          · by_cases hkn : k < f.ex.length
            · have d0 : decide ((k : Int) < (f.ex.length : Int)) = true := decide_eq_true (by omega)
              have hgk := hrc k hkn
              obtain ⟨g1, g2, _⟩ := ex_at1 (E := f.ex) (i := k) hkn
              by_cases hke : k < en l i
              · rw [decide_eq_true hke]
                obtain ⟨kk, hkk⟩ := Pl.run_val hx (k - i) (fun j a b => hen.2.1 j a (by omega))
                rw [show i + (k - i) = k by omega] at hkk
                obtain ⟨_, k2, _⟩ := hfs.sh k _ hkk
                have hnbk := hfs.nb k _ hkk
                dsimp only at hnbk
                rw [k2] at g1 g2
                dsimp only at g1 g2
                have hik : isS l k = true := by unfold isS; rw [hkk]; rfl
                rw [hik] at hgk
                (repeat refine PW.seq ?_); refine PW.draw mix (by kernel_rfl) fun K hK => ?_; simp (maxSteps := 3000000) (disch := omega) only [go_sem, ↓reduceIte, reduceCtorEq, pappend, plen, d0, hgk, hl6, g1, g2, gi1, gi2, c1, e3]
                refine hK _ _ ?_; clear hK K
                exact ⟨rfl, rfl⟩
              · rw [decide_eq_false hke]
                obtain rfl : k = en l i := by omega
                cases hky : sh l (en l i) with
                | none =>
                  have hik : isS l (en l i) = false := by unfold isS; rw [hky]; rfl
                  rw [hik] at hgk
                  (repeat refine PW.seq ?_); refine PW.draw mix (by kernel_rfl) fun K hK => ?_; simp (maxSteps := 3000000) (disch := omega) only [go_sem, ↓reduceIte, reduceCtorEq, pappend, plen, d0, hgk, hl6]
                  refine hK _ _ ?_; clear hK K
                  exact ⟨rfl, rfl⟩
                | some y =>
                  have hik : isS l (en l i) = true := by unfold isS; rw [hky]; rfl
                  rw [hik] at hgk
                  obtain ⟨_, k2, _⟩ := hfs.sh _ y hky
                  have hnbk := hfs.nb _ y hky
                  rw [k2] at g1 g2
                  dsimp only at g1 g2
                  obtain ⟨kp', hkp⟩ := Pl.run_val hx (en l i - 1 - i) (fun j a b => hen.2.1 j a (by omega))
                  rw [show i + (en l i - 1 - i) = en l i - 1 by omega] at hkp
                  have hna := hen.2.2
                  rw [adj_iff, hkp, show en l i - 1 + 1 = en l i by omega, hky] at hna
                  change (true && (true && ((y.m == x.m) && (y.n == x.n + ((en l i - 1 - i : Nat) : Int) + 1)))) = false at hna
                  simp only [Bool.true_and] at hna
                  by_cases hym : y.m = x.m
                  · have hyn : (y.n == x.n + ((en l i - i : Nat) : Int)) = false := by
                      rw [hym] at hna
                      simp only [beq_self_eq_true, Bool.true_and] at hna
                      rw [← hna]
                      congr 1
                      omega
                    have hyb : (y.m == x.m) = true := by simp [hym]
                    (repeat refine PW.seq ?_); refine PW.draw mix (by kernel_rfl) fun K hK => ?_; simp (maxSteps := 3000000) (disch := omega) only [go_sem, ↓reduceIte, reduceCtorEq, pappend, plen, d0, hgk, hl6, g1, g2, gi1, gi2, c1, e3, hyb, hyn]
                    refine hK _ _ ?_; clear hK K
                    exact ⟨rfl, rfl⟩
                  · have hyb : (y.m == x.m) = false := by simp [hym]
                    (repeat refine PW.seq ?_); refine PW.draw mix (by kernel_rfl) fun K hK => ?_; simp (maxSteps := 3000000) (disch := omega) only [go_sem, ↓reduceIte, reduceCtorEq, pappend, plen, d0, hgk, hl6, g1, g2, gi1, gi2, c1, hyb]
                    refine hK _ _ ?_; clear hK K
                    exact ⟨rfl, rfl⟩
            · have d0 : decide ((k : Int) < (f.ex.length : Int)) = false := decide_eq_false (by omega)
              rw [decide_eq_false (by omega : ¬ k < en l i)]
              (repeat refine PW.seq ?_); refine PW.draw mix (by kernel_rfl) fun K hK => ?_; simp (maxSteps := 3000000) (disch := omega) only [go_sem, ↓reduceIte, reduceCtorEq, pappend, plen, d0]
              refine hK _ _ ?_; clear hK K
              exact ⟨rfl, rfl⟩
          (repeat refine PW.seq ?_); refine PW.cond (t := _) rfl (fun h => ?_) (fun h => ?_)
          rotate_left
          · have hke : k = en l i := by have := of_decide_eq_false h; omega
            subst hke
            clear ih2
            refine PW.exit ?_
            have hTl := Pl.tys_len l i (en l i)
            have cpo := fun K => copy_ref (tys l i (en l i)) false K (by omega)
            rw [hTl] at cpo
            have hspl := cc_splice (l := l) (n := f.ex.length) (a := i) (e := en l i) (g := arr (tys l i (en l i)) (en l i - i)) (by omega) (by omega) (fun k a b => Pl.cpd_run hst hen.2.1 hen.2.2 hx a b)
            have hfi : isF l i = true := by unfold isF; rw [hg0, hsti]; simp
            have hfs1 := fb_set l f.ex.length i hfi
            have hfs2 := fb_none (l := l) (n := f.ex.length) (c := i + 1) (en l i - (i + 1)) (fun j a b => by
              unfold isF
              have : st l j = i := (Pl.run_same hst hen.2.1 hen.2.2 (i := j) (by omega) (by omega)).1
              rw [this, decide_eq_false (by omega)]
              simp)
            rw [show i + 1 + (en l i - (i + 1)) = en l i by omega] at hfs2
            rw [← hfs2] at hfs1
            have hgl : (fs (rg (en l i - i) (arr (tys l i (en l i)) (en l i - i)))).length = en l i - i := by rw [fs_len, rg_len]
            have htk : (fs (rg (en l i - i) (arr (tys l i (en l i)) (en l i - i)))).take (en l i - i) = fs (rg (en l i - i) (arr (tys l i (en l i)) (en l i - i))) := List.take_of_length_le (by omega)
            have e6 : i + (en l i - i) = en l i := by omega
            (repeat refine PW.seq ?_)
            refine PW.view (Vs.trim (F1 := [(2, .slice (f.ex.flatMap exc) f.ex.length false), (3, .slice (f.me.flatMap ixc) f.me.length false), (8, .ptr (H.length + 1) 0 0), (10, .slice (fs (rg f.ex.length (isS l))) f.ex.length false), (11, .msl (H.length + 2) 1 0 f.ex.length 1 true), (12, .msl (H.length + 3) 1 0 f.ex.length 1 true), (13, .int .i64 (i : Int)), (14, .int .i64 (en l i : Int)), (15, .slice (is (tys l i (en l i))) (en l i - i) false)]) (H1 := H ++ [⟨39, 0, sqc f.s⟩, ⟨71, 0, [.slice [] 0 true]⟩, ⟨4, 1, fs (cc l f.ex.length i)⟩, ⟨4, 1, fs (fb l f.ex.length i)⟩]) (hsc4 i i) (by simp) (List.append_assoc _ [_, _, _, _] [_]).symm ?_) ?_
            · rw [List.length_append]
              simp only [List.length_cons, List.length_nil]
              exact ⟨.id (sl_scoped (s1 _)), .id (sl_scoped (ixl_sc _ _)), .id (.ptr (by omega)), .id (sl_scoped (fs_scoped _ _)), .id (.msl (by omega)), .id (.msl (by omega)), .id (.int _ _), .id (.int _ _), Fz.mslC (e := 3) (xs := is (tys l i (en l i))) (by omega) (hp4 _ _ _ _ _ _ _) (by rw [htl]; omega) (FzC.refl (is_scoped _ _)), trivial⟩
            (repeat refine PW.seq ?_); refine PW.rg rfl fun K hK => ?_; simp (maxSteps := 3000000) (disch := omega) only [go_sem, ↓reduceIte, reduceCtorEq, pappend, plen]; refine VCx.call (cpo _) rfl ?_; simp (maxSteps := 3000000) (disch := omega) only [go_sem, ↓reduceIte, reduceCtorEq, pappend, plen]; refine hK _ _ ?_; clear hK K
            (repeat refine PW.seq ?_); refine PW.rg rfl fun K hK => ?_; simp (maxSteps := 3000000) (disch := omega) only [go_sem, ↓reduceIte, reduceCtorEq, pappend, plen, hcl, hgl, htk, e6, Nat.min_self, Nat.mul_one]; refine hK _ _ ?_; clear hK K
            (repeat refine PW.seq ?_)
            refine PW.eq rfl (show _ = H ++ [⟨39, 0, sqc f.s⟩, ⟨71, 0, [.slice [] 0 true]⟩, ⟨4, 1, fs (cc l f.ex.length (en l i))⟩, ⟨4, 1, fs (fb l f.ex.length i)⟩] from ?_) ?_
            · rw [hspl]
            (repeat refine PW.seq ?_); refine PW.rg rfl fun K hK => ?_; simp (maxSteps := 3000000) (disch := omega) only [go_sem, ↓reduceIte, reduceCtorEq, pappend, plen, hfl, hfs1]; refine hK _ _ ?_; clear hK K
            (repeat refine PW.seq ?_); refine PW.rg rfl fun K hK => ?_; simp (maxSteps := 3000000) (disch := omega) only [go_sem, ↓reduceIte, reduceCtorEq, pappend, plen]; refine hK _ _ ?_; clear hK K
            exact PL.at [2, 3, 8, 10, 11, 12, 13] (ih (f.ex.length - en l i) (by omega) (en l i) (by omega) (.inr hen.2.2) rfl) rfl rfl
          · have hke : k < en l i := of_decide_eq_true h
            obtain ⟨kk, hkk⟩ := Pl.run_val hx (k - i) (fun j a b => hen.2.1 j a (by omega))
            rw [show i + (k - i) = k by omega] at hkk
            have hkn : k < f.ex.length := by omega
            obtain ⟨g1, g2, _⟩ := ex_at1 (E := f.ex) (i := k) hkn
            obtain ⟨_, k2, q', hfq', hqm', hux', hkx'⟩ := hfs.sh k _ hkk
            have hnbk := hfs.nb k _ hkk
            dsimp only at hnbk hfq' hux' hkx'
            rw [k2] at g1 g2
            dsimp only at g1 g2
            have fo := fun K => find_ok f.me false x.m K hM (by omega)
            rw [hfq'] at fo
            change ∀ K, CallOk _ _ _ K (.int .i64 (q' : Int)) K at fo
            have x136 := ix_136 hM hqm'
            have hr := usb_rng hux'
            have he := en_0 (ixAt f.me q').en (x.n + ((k - i : Nat) : Int)).toNat (by omega)
            rw [← hkx'] at he
            have hE5 := fm_len enc 5 (fun _ => rfl) (ixAt f.me q').en
            have hnx : is (tys l i k) ++ [PV.int .i64 kk] = is (tys l i (k + 1)) := by
              unfold tys
              rw [show k + 1 - i = (k - i) + 1 by omega, List.range_succ, List.map_append, is_append]
              congr 1
              simp only [List.map_cons, List.map_nil]
              rw [show i + (k - i) = k by omega, hkk]
              rfl
            have hnl : (is (tys l i (k + 1))).length = k + 1 - i := by rw [is_len, Pl.tys_len]
            have e9 : k - i + 1 = k + 1 - i := by omega
            generalize ixAt f.me q' = z at *
            refine PW.skip ?_; (repeat refine PW.seq ?_); refine PW.block ?_
            (repeat refine PW.seq ?_); refine PW.drawi [H.length + 4] [(15, [0]), (92, [0]), (113, [0])] [] [] mix (by kernel_rfl) (by simp <;> omega) fun K hK => ?_
            simp (maxSteps := 3000000) (disch := omega) only [go_sem, ↓reduceIte, reduceCtorEq, pappend, plen, g1, g2, c1]
            refine VCj.read (fun _ _ => fo _) rfl ?_
            simp (maxSteps := 3000000) (disch := omega) only [go_sem, ↓reduceIte, reduceCtorEq, pappend, plen, g1, g2, c1, x136, hlM, he, hE5, hp4, hs4, htl, hnx, hnl]
            refine hK _ _ ?_; clear hK K
            (repeat refine PW.seq ?_); refine PW.rg rfl fun K hK => ?_; simp (maxSteps := 3000000) (disch := omega) only [go_sem, ↓reduceIte, reduceCtorEq, pappend, plen]; refine hK _ _ ?_; clear hK K
            refine PL.at [2, 3, 8, 10, 11, 12, 13, 14, 15] (ih2 (en l i - (k + 1)) (by omega) (k + 1) (by omega) (by omega) rfl) ?_ ?_
            · simp only [← e9]
              rfl
            · simp only [← e9]

end Go.Proofs.Ytnjnikafhbholaa.Sc

namespace Go.Proofs.Ytnjnikafhbholaa.Sc
set_option linter.all false
set_option linter.unusedVariables false
set_option linter.unusedSimpArgs false
open Pm Ty Go.RowKit
open Pl (Pa Sh PF PaL PaOk arr sh kd adj st en pts cpd jn ext shm shn tys bump lastC bump_snoc lastC_snoc)

theorem plsc (n : Nat) (A B C : List Pa) (ga gb gc : Bool) : ∀ x ∈ ([.slice (A.flatMap pac) A.length ga, .slice (B.flatMap pac) B.length gb, .slice (C.flatMap pac) C.length gc] : List PV), Scoped n x := fun x hx => by
  simp only [List.mem_cons, List.not_mem_nil, or_false] at hx
  rcases hx with rfl | rfl | rfl
  · exact sl_scoped (pal_sc _ _)
  · exact sl_scoped (pal_sc _ _)
  · exact sl_scoped (pal_sc _ _)

theorem plsc' (n : Nat) (A B C : List Pa) (ga gb gc : Bool) (k : Nat) : ∀ x ∈ ([.slice (A.flatMap pac) A.length ga, .slice (B.flatMap pac) B.length gb, .slice (C.flatMap pac) k gc] : List PV), Scoped n x := fun x hx => by
  simp only [List.mem_cons, List.not_mem_nil, or_false] at hx
  rcases hx with rfl | rfl | rfl
  · exact sl_scoped (pal_sc _ _)
  · exact sl_scoped (pal_sc _ _)
  · exact sl_scoped (pal_sc _ _)
theorem pal_set : ∀ (l : List Pa) (j o : Nat) (v : PV) (p' : Pa), j < l.length → o < 5 → (pac (paAt l j)).set o v = pac p' → (l.flatMap pac).set (j * 5 + o) v = (l.set j p').flatMap pac
  | [], j, o, v, p', h, _, _ => by simp at h
  | a :: r, 0, o, v, p', _, ho, h => by
    rw [List.flatMap_cons, Nat.zero_mul, Nat.zero_add, List.set_append_left _ _ (show o < 5 from ho), List.set_cons_zero, List.flatMap_cons, ← h]
    rfl
  | a :: r, j + 1, o, v, p', hj, ho, h => by
    rw [List.flatMap_cons, List.set_append_right _ _ (show 5 ≤ (j + 1) * 5 + o by omega), List.set_cons_succ, List.flatMap_cons, ← pal_set r j o v p' (by simpa using hj) ho h]
    congr 2
    show (j + 1) * 5 + o - 5 = j * 5 + o
    omega
theorem vld_film {n : Int} : ∀ {ps : List Pa} {a : Int}, 0 ≤ a → vld n a ps = true → ∀ p ∈ ps, 0 ≤ p.film ∧ p.film ≤ n
  | [], a, ha, h, p, hp => by simp at hp
  | q :: r, a, ha, h, p, hp => by
    simp only [vld, paV, Bool.and_eq_true, decide_eq_true_eq] at h
    obtain ⟨⟨h1, h2, h3, _⟩, h4⟩ := h
    rcases List.mem_cons.1 hp with rfl | hp
    · omega
    · exact vld_film (by omega) h4 p hp

set_option maxRecDepth 100000 in
set_option maxHeartbeats 8000000 in
theorem law_valid (raw : List Pa) (gr : Bool) (L : List Int) (g : Bool) (n wh by' : Int) (H : Heap) (hraw : raw.length ≤ 9223372036854775807) (hn : -9223372036854775808 ≤ n ∧ n ≤ 9223372036854775807) : CallOk Try.prog 11 [.agg [.slice (raw.flatMap pac) raw.length gr], .slice (is L) L.length g, .int .i64 n, .int .i64 wh, .int .i64 by'] H (.bool true) H := by
  have mo := fun K => made_ok L g K
  have hf := flm_more L
  have hnm := flm_nm L
  have hfs := flS_ok _ hf hnm
  generalize flm L = f at *
  obtain ⟨lf, cf, tf, f0, f1, f2, f3⟩ := flC_ok f hf.s
  have hfn := hf.n
  have k2 := refMake_ok f hf hnm
  have p2 := (Pl.pts_ok (f.ex.map (shOf f.s f.top f.me)) f.ex.length).front
  have b2 := pts_PB (f.ex.map (shOf f.s f.top f.me)) f.ex.length
  generalize f.ex.map (shOf f.s f.top f.me) = l at *
  have hv := vld_pts hfs.nb hfs.nm p2
  generalize pts l f.ex.length = ps at *
  have b2l := b2.2
  have v0 := fun K => valid_ok ps false (f.ex.length : Int) K (by omega) (by omega)
  change vld (f.ex.length : Int) 0 ps = true at hv
  rw [hv] at v0
  have hfilm : ∀ {p : Pa} {j : Nat}, paAt ps j = p → 0 ≤ p.film ∧ p.film ≤ 1000 := fun {p j} e => by
    by_cases hj : j < ps.length
    · have := vld_film (by omega) hv p (by rw [← e]; exact getD_mem pa0 ps j hj)
      omega
    · rw [← e]
      unfold paAt
      rw [List.getD_eq_getElem?_getD, List.getElem?_eq_none (by omega)]
      simp [pa0]
  have hp5 := pal_len ps
  have hsc2 : HSc H → HSc (H ++ [⟨71, 0, [.slice (raw.flatMap pac) raw.length gr]⟩, ⟨50, 0, flc f⟩]) := hscU 2 (by
    intro q hq t ht
    simp only [List.mem_cons, List.not_mem_nil, or_false] at hq
    rcases hq with rfl | rfl
    · simp only [List.mem_singleton] at ht
      rw [ht]; exact sl_scoped (pal_sc _ _)
    · exact flc_sc _ _ hf.ex _ ht)
  refine CallOk.body (F0 := [(0, .agg [.slice (raw.flatMap pac) raw.length gr]), (1, .slice (is L) L.length g), (2, .int .i64 n), (3, .int .i64 wh), (4, .int .i64 by')]) Try.func11 rfl Try.ntmps11 Try.results11 rfl (by kernel_rfl) rfl ?_
  suffices tail : ∀ (Q : List Pa) (gq : Bool), Q.length ≤ 9223372036854775807 → PL Try.prog _ _ [(2, .int .i64 n), (11, .ptr (H.length + 1) 0 0), (109, .slice [.slice (raw.flatMap pac) raw.length gr, .slice (ps.flatMap pac) ps.length false, .slice (Q.flatMap pac) Q.length gq] 3 true), (110, .int .i64 3), (111, .int .i64 ((0 : Nat) : Int))] (H ++ [⟨71, 0, [.slice (raw.flatMap pac) raw.length gr]⟩, ⟨50, 0, flc f⟩]) _ by
    (repeat refine PW.seq ?_); refine PW.rg rfl fun K hK => ?_; simp (maxSteps := 3000000) (disch := omega) only [go_sem, ↓reduceIte, reduceCtorEq, pappend, plen]; refine hK _ _ ?_; clear hK K
    (repeat refine PW.seq ?_); refine PW.rg rfl fun K hK => ?_; simp (maxSteps := 3000000) (disch := omega) only [go_sem, ↓reduceIte, reduceCtorEq, pappend, plen, lf, cf]; refine VCx.call (mo _) rfl ?_; simp (maxSteps := 3000000) (disch := omega) only [go_sem, ↓reduceIte, reduceCtorEq, pappend, plen, lf, cf]; refine hK _ _ ?_; clear hK K
    (repeat refine PW.seq ?_); refine PW.rg rfl fun K hK => ?_; simp (maxSteps := 3000000) (disch := omega) only [go_sem, ↓reduceIte, reduceCtorEq, pappend, plen, lf, f0, f1, f2, f3]; refine VCx.call (k2 _) rfl ?_; simp (maxSteps := 3000000) (disch := omega) only [go_sem, ↓reduceIte, reduceCtorEq, pappend, plen, lf, f0, f1, f2, f3]; refine hK _ _ ?_; clear hK K
    (repeat refine PW.seq ?_); refine PW.rg rfl fun K hK => ?_; simp (maxSteps := 3000000) (disch := omega) only [go_sem, ↓reduceIte, reduceCtorEq, pappend, plen, lf, f2]; refine VCx.call (v0 _) rfl ?_; simp (maxSteps := 3000000) (disch := omega) only [go_sem, ↓reduceIte, reduceCtorEq, pappend, plen, lf, f2]; refine hK _ _ ?_; clear hK K
    (repeat refine PW.seq ?_); refine PW.cond (t := _) rfl (fun h => ?_) (fun h => ?_)
    · cases h
    refine PW.skip ?_
    by_cases hps : ps = []
    · subst hps
      (repeat refine PW.seq ?_); refine PW.rg rfl fun K hK => ?_; simp (maxSteps := 3000000) (disch := omega) only [go_sem, ↓reduceIte, reduceCtorEq, pappend, plen, List.flatMap_nil]; refine hK _ _ ?_; clear hK K
      (repeat refine PW.seq ?_); refine PW.rg rfl fun K hK => ?_; simp (maxSteps := 3000000) (disch := omega) only [go_sem, ↓reduceIte, reduceCtorEq, pappend, plen]; refine hK _ _ ?_; clear hK K
      (repeat refine PW.seq ?_); refine PW.rg rfl fun K hK => ?_; simp (maxSteps := 3000000) (disch := omega) only [go_sem, ↓reduceIte, reduceCtorEq, pappend, plen]; refine hK _ _ ?_; clear hK K
      (repeat refine PW.seq ?_); refine PW.cond (t := _) rfl (fun h => ?_) (fun h => ?_)
      · cases h
      refine PW.skip ?_
      (repeat refine PW.seq ?_); refine PW.rg rfl fun K hK => ?_; simp (maxSteps := 3000000) (disch := omega) only [go_sem, ↓reduceIte, reduceCtorEq, pappend, plen]; refine hK _ _ ?_; clear hK K
      (repeat refine PW.seq ?_); refine PW.block (PW.loop ?_)
      refine PL.view (Vs.trim (F1 := [(2, .int .i64 n), (11, .ptr (H.length + 1) 0 0), (109, .slice [.slice (raw.flatMap pac) raw.length gr, .slice (([] : List Pa).flatMap pac) ([] : List Pa).length false, .slice ((([] : List Pa)).flatMap pac) (([] : List Pa)).length true] 3 true), (110, .int .i64 3), (111, .int .i64 ((0 : Nat) : Int))]) (H1 := H ++ [⟨71, 0, [.slice (raw.flatMap pac) raw.length gr]⟩, ⟨50, 0, flc f⟩]) hsc2 (by simp) (List.append_assoc _ [_, _] [_, _]).symm ?_) (tail (([] : List Pa)) true (by simp))
      rw [List.length_append]
      simp only [List.length_cons, List.length_nil]
      exact ⟨.id (.int _ _), .id (.ptr (by omega)), .id (sl_scoped (plsc _ raw [] [] gr false true)), .id (.int _ _), .id (.int _ _), trivial⟩
    · obtain ⟨n0, hn0⟩ : ∃ n0, ps.length = n0 + 1 := by
        cases ps with
        | nil => exact absurd rfl hps
        | cons a r => exact ⟨r.length, rfl⟩
      (repeat refine PW.seq ?_); refine PW.rg rfl fun K hK => ?_; simp (maxSteps := 3000000) (disch := omega) only [go_sem, ↓reduceIte, reduceCtorEq, pappend, plen, hp5, hn0]; refine hK _ _ ?_; clear hK K
      (repeat refine PW.seq ?_); refine PW.rg rfl fun K hK => ?_; simp (maxSteps := 3000000) (disch := omega) only [go_sem, ↓reduceIte, reduceCtorEq, pappend, plen, hp3]; refine hK _ _ ?_; clear hK K
      (repeat refine PW.seq ?_); refine PW.rg rfl fun K hK => ?_; simp (maxSteps := 3000000) (disch := omega) only [go_sem, ↓reduceIte, reduceCtorEq, pappend, plen]; refine hK _ _ ?_; clear hK K
      (repeat refine PW.seq ?_); refine PW.cond (t := _) rfl (fun h => ?_) (fun h => ?_)
      rotate_left
      · cases h
      have hr1 := tmod_lt wh ((n0 + 1 : Nat) : Int) (by omega)
      obtain ⟨j0, hj0⟩ : ∃ j : Nat, (wh.tmod ((n0 + 1 : Nat) : Int) + ((n0 + 1 : Nat) : Int)).tmod ((n0 + 1 : Nat) : Int) = (j : Int) := ⟨((wh.tmod ((n0 + 1 : Nat) : Int) + ((n0 + 1 : Nat) : Int)).tmod ((n0 + 1 : Nat) : Int)).toNat, by
        have := Int.tmod_nonneg ((n0 + 1 : Nat) : Int) (by omega : 0 ≤ wh.tmod ((n0 + 1 : Nat) : Int) + ((n0 + 1 : Nat) : Int))
        omega⟩
      have hj1 : j0 < n0 + 1 := by
        have := Int.tmod_lt_of_pos (wh.tmod ((n0 + 1 : Nat) : Int) + ((n0 + 1 : Nat) : Int)) (by omega : 0 < ((n0 + 1 : Nat) : Int))
        omega
      have hr2 := tmod_lt by' 4 (by omega)
      have hr3 := tmod_lt by' 3 (by omega)
      have hw0 := Int.tmod_nonneg 4 (by omega : 0 ≤ by'.tmod 4 + 4)
      have hw1 := Int.tmod_lt_of_pos (by'.tmod 4 + 4) (by omega : (0 : Int) < 4)
      obtain ⟨p, hp⟩ : ∃ p, paAt ps j0 = p := ⟨_, rfl⟩
      have hat := pal_at ps j0 (by omega)
      have hset := fun o v p' => pal_set ps j0 o v p' (by omega)
      rw [hp] at hat hset
      have hpb := b2.1 p (by rw [← hp]; exact getD_mem pa0 ps j0 (by omega))
      have hgo := fun o (ho : o < 5) => get_of_take (j := o) hat ho
      obtain ⟨cp, film, len, m, fr⟩ := p
      have hfb : 0 ≤ film ∧ film ≤ 1000 := hfilm hp
      have g0 := hgo 0 (by omega)
      have g1 := hgo 1 (by omega)
      have g2 := hgo 2 (by omega)
      rw [Nat.add_zero] at g0
      simp only [pac, List.getElem?_cons_zero, List.getElem?_cons_succ] at g0 g1 g2
      dsimp only at hpb
      obtain ⟨pw, hpw⟩ : ∃ pw : Pa, pw = if (by'.tmod 4 + 4).tmod 4 = 0 then ⟨cp, film, len + by'.tmod 3, m, fr⟩ else if (by'.tmod 4 + 4).tmod 4 = 1 then ⟨cp, film + by'.tmod 3, len, m, fr⟩ else if (by'.tmod 4 + 4).tmod 4 = 2 then ⟨!cp, film, len, m, fr⟩ else ⟨cp, film, len, m, by'.tmod 3⟩ := ⟨_, rfl⟩
      have hzz : ¬ (((n0 + 1 : Nat) : Int) = 0) := by omega
      refine PW.meet [2, 5, 11, 12, 14] [(2, .int .i64 n), (5, .ptr H.length 0 0), (11, .ptr (H.length + 1) 0 0), (12, .ptr (H.length + 2) 0 0), (14, .ptr (H.length + 4) 0 0)] (H ++ [⟨71, 0, [.slice (raw.flatMap pac) raw.length gr]⟩, ⟨50, 0, flc f⟩, ⟨71, 0, [.slice (ps.flatMap pac) ps.length false]⟩, ⟨77, (n0 + 1) * 5, (ps.set j0 pw).flatMap pac⟩, ⟨71, 0, [.msl (H.length + 3) ((n0 + 1) * 5) 0 (n0 + 1) 5 true]⟩]) ?_ ?_
      · (repeat refine PW.seq ?_); refine PW.draw mix (by kernel_rfl) fun K hK => ?_; simp (maxSteps := 3000000) (disch := omega) only [go_sem, ↓reduceIte, reduceCtorEq, pappend, plen, hj0, hzz, hp4, hp3, hp5, hn0]; refine hK _ _ ?_; clear hK K
        (repeat refine PW.seq ?_); refine PW.rg rfl fun K hK => ?_; simp (maxSteps := 3000000) (disch := omega) only [go_sem, ↓reduceIte, reduceCtorEq, pappend, plen]; refine hK _ _ ?_; clear hK K
        (repeat refine PW.seq ?_); refine PW.block ?_
        (repeat refine PW.seq ?_); refine PW.rg rfl fun K hK => ?_; simp (maxSteps := 3000000) (disch := omega) only [go_sem, ↓reduceIte, reduceCtorEq, pappend, plen]; refine hK _ _ ?_; clear hK K
        (repeat refine PW.seq ?_); refine PW.cond (t := _) rfl (fun h => ?_) (fun h => ?_)
        · have hw : (by'.tmod 4 + 4).tmod 4 = 0 := by simpa using h
          rw [if_pos hw] at hpw
          have hs := hset 2 (.int .i64 (len + by'.tmod 3)) pw (by omega) (by rw [hpw]; rfl)
          (repeat refine PW.seq ?_); refine PW.rg rfl fun K hK => ?_; simp (maxSteps := 3000000) (disch := omega) only [go_sem, ↓reduceIte, reduceCtorEq, pappend, plen, hp3, hs3, hp5, hn0, g2, hs]; refine hK _ _ ?_; clear hK K
          exact ⟨rfl, by rw [hn0]⟩
        have hwa : ¬ (by'.tmod 4 + 4).tmod 4 = 0 := by simpa using h
        rw [if_neg hwa] at hpw
        (repeat refine PW.seq ?_); refine PW.rg rfl fun K hK => ?_; simp (maxSteps := 3000000) (disch := omega) only [go_sem, ↓reduceIte, reduceCtorEq, pappend, plen]; refine hK _ _ ?_; clear hK K
        (repeat refine PW.seq ?_); refine PW.cond (t := _) rfl (fun h => ?_) (fun h => ?_)
        · have hw : (by'.tmod 4 + 4).tmod 4 = 1 := by simpa using h
          rw [if_pos hw] at hpw
          have hs := hset 1 (.int .i64 (film + by'.tmod 3)) pw (by omega) (by rw [hpw]; rfl)
          (repeat refine PW.seq ?_); refine PW.rg rfl fun K hK => ?_; simp (maxSteps := 3000000) (disch := omega) only [go_sem, ↓reduceIte, reduceCtorEq, pappend, plen, hp3, hs3, hp5, hn0, g1, hs]; refine hK _ _ ?_; clear hK K
          exact ⟨rfl, by rw [hn0]⟩
        have hwb : ¬ (by'.tmod 4 + 4).tmod 4 = 1 := by simpa using h
        rw [if_neg hwb] at hpw
        (repeat refine PW.seq ?_); refine PW.rg rfl fun K hK => ?_; simp (maxSteps := 3000000) (disch := omega) only [go_sem, ↓reduceIte, reduceCtorEq, pappend, plen]; refine hK _ _ ?_; clear hK K
        (repeat refine PW.seq ?_); refine PW.cond (t := _) rfl (fun h => ?_) (fun h => ?_)
        · have hw : (by'.tmod 4 + 4).tmod 4 = 2 := by simpa using h
          rw [if_pos hw] at hpw
          have hs := hset 0 (.bool (!cp)) pw (by omega) (by rw [hpw]; rfl)
          rw [Nat.add_zero] at hs
          (repeat refine PW.seq ?_); refine PW.rg rfl fun K hK => ?_; simp (maxSteps := 3000000) (disch := omega) only [go_sem, ↓reduceIte, reduceCtorEq, pappend, plen, hp3, hs3, hp5, hn0, g0, hs]; refine hK _ _ ?_; clear hK K
          exact ⟨rfl, by rw [hn0]⟩
        have hwc : ¬ (by'.tmod 4 + 4).tmod 4 = 2 := by simpa using h
        rw [if_neg hwc] at hpw
        (repeat refine PW.seq ?_); refine PW.rg rfl fun K hK => ?_; simp (maxSteps := 3000000) (disch := omega) only [go_sem, ↓reduceIte, reduceCtorEq, pappend, plen]; refine hK _ _ ?_; clear hK K
        (repeat refine PW.seq ?_); refine PW.cond (t := _) rfl (fun h => ?_) (fun h => ?_)
        · have hs := hset 4 (.int .i64 (by'.tmod 3)) pw (by omega) (by rw [hpw]; rfl)
          (repeat refine PW.seq ?_); refine PW.rg rfl fun K hK => ?_; simp (maxSteps := 3000000) (disch := omega) only [go_sem, ↓reduceIte, reduceCtorEq, pappend, plen, hp3, hs3, hp5, hn0, hs]; refine hK _ _ ?_; clear hK K
          exact ⟨rfl, by rw [hn0]⟩
        · exfalso
          have : ¬ (by'.tmod 4 + 4).tmod 4 = 3 := by simpa using h
          omega
      have hl9 : ((ps.set j0 pw).flatMap pac).length = (n0 + 1) * 5 := by rw [pal_len, List.length_set, hn0]
      (repeat refine PW.seq ?_)
      refine PW.view (Vs.frzCell (id := H.length + 3) (id' := H.length + 4) (j := 0) (hp3 _ _ _ _ _ _) (hp4 _ _ _ _ _ _ _) (by omega) rfl hl9) ?_
      refine PW.eq rfl (show _ = H ++ [⟨71, 0, [.slice (raw.flatMap pac) raw.length gr]⟩, ⟨50, 0, flc f⟩, ⟨71, 0, [.slice (ps.flatMap pac) ps.length false]⟩, ⟨77, (n0 + 1) * 5 + 1, []⟩, ⟨71, 0, [.slice ((ps.set j0 pw).flatMap pac) (n0 + 1) false]⟩] by rw [hs3, hs4]; rfl) ?_
      (repeat refine PW.seq ?_); refine PW.rg rfl fun K hK => ?_; simp (maxSteps := 3000000) (disch := omega) only [go_sem, ↓reduceIte, reduceCtorEq, pappend, plen, hp4]; refine hK _ _ ?_; clear hK K
      (repeat refine PW.seq ?_); refine PW.block (PW.loop ?_)
      refine PL.view (Vs.trim (F1 := [(2, .int .i64 n), (11, .ptr (H.length + 1) 0 0), (109, .slice [.slice (raw.flatMap pac) raw.length gr, .slice (ps.flatMap pac) ps.length false, .slice ((ps.set j0 pw).flatMap pac) (n0 + 1) false] 3 true), (110, .int .i64 3), (111, .int .i64 ((0 : Nat) : Int))]) (H1 := H ++ [⟨71, 0, [.slice (raw.flatMap pac) raw.length gr]⟩, ⟨50, 0, flc f⟩]) hsc2 (by simp) (List.append_assoc _ [_, _] [_, _, _]).symm ?_) (by have tl := tail (ps.set j0 pw) false (by rw [List.length_set]; omega); rw [show (ps.set j0 pw).length = n0 + 1 by rw [List.length_set, hn0]] at tl; exact tl)
      rw [List.length_append]
      simp only [List.length_cons, List.length_nil]
      exact ⟨.id (.int _ _), .id (.ptr (by omega)), .id (sl_scoped (plsc' _ _ _ _ _ _ _ _)), .id (.int _ _), .id (.int _ _), trivial⟩

  intro Q gq hQ
  suffices hl1 : ∀ j : Nat, j ≤ 3 → PL Try.prog _ _ [(2, .int .i64 n), (11, .ptr (H.length + 1) 0 0), (109, .slice [.slice (raw.flatMap pac) raw.length gr, .slice (ps.flatMap pac) ps.length false, .slice (Q.flatMap pac) Q.length gq] 3 true), (110, .int .i64 3), (111, .int .i64 (j : Int))] (H ++ [⟨71, 0, [.slice (raw.flatMap pac) raw.length gr]⟩, ⟨50, 0, flc f⟩]) _ by
    exact hl1 0 (by omega)
  intro j hj
  induction hd : 3 - j using Nat.strongRecOn generalizing j with
  | _ d ih =>
    refine PL.round ?_; (repeat refine PW.seq ?_); refine PW.rg rfl fun K hK => ?_; simp (maxSteps := 3000000) (disch := omega) only [go_sem, ↓reduceIte, reduceCtorEq, pappend, plen]; refine hK _ _ ?_; clear hK K
    (repeat refine PW.seq ?_); refine PW.cond (t := _) rfl (fun h => ?_) (fun h => ?_)
    rotate_left
    · refine PW.exit ?_
      (repeat refine PW.seq ?_); refine PW.rg rfl fun K hK => ?_; simp (maxSteps := 3000000) (disch := omega) only [go_sem, ↓reduceIte, reduceCtorEq, pappend, plen]; refine VCx.call (awake31 _) rfl ?_; simp (maxSteps := 3000000) (disch := omega) only [go_sem, ↓reduceIte, reduceCtorEq, pappend, plen]; refine hK _ _ ?_; clear hK K
      (refine PW.ret ⟨_, rfl, ?_⟩; first | refine .inl ⟨?_, rfl⟩ | refine Fin.base (.id' ?_ (.bool _)) | refine Fin.base (.id' ?_ (.int _ _)))
      rfl
    · have h4 : j < 3 := by have := of_decide_eq_true h; omega
      obtain ⟨Y, gy, hY, hYl⟩ : ∃ (Y : List Pa) (gy : Bool), ([.slice (raw.flatMap pac) raw.length gr, .slice (ps.flatMap pac) ps.length false, .slice (Q.flatMap pac) Q.length gq] : List PV)[j]? = some (.slice (Y.flatMap pac) Y.length gy) ∧ Y.length ≤ 9223372036854775807 := by
        have h5 : j = 0 ∨ j = 1 ∨ j = 2 := by omega
        rcases h5 with rfl | rfl | rfl
        · exact ⟨raw, gr, rfl, hraw⟩
        · exact ⟨ps, false, rfl, by omega⟩
        · exact ⟨Q, gq, rfl, hQ⟩
      have hY1 : List.take 1 (List.drop j ([.slice (raw.flatMap pac) raw.length gr, .slice (ps.flatMap pac) ps.length false, .slice (Q.flatMap pac) Q.length gq] : List PV)) = [.slice (Y.flatMap pac) Y.length gy] := by
        rw [List.drop_eq_getElem_cons (by simpa using h4)]
        rw [List.getElem?_eq_getElem (by simpa using h4)] at hY
        injection hY with hY
        rw [hY]
        rfl
      refine PW.skip ?_; (repeat refine PW.seq ?_); refine PW.block ?_
      (repeat refine PW.seq ?_); refine PW.rg rfl fun K hK => ?_; simp (maxSteps := 3000000) (disch := omega) only [go_sem, ↓reduceIte, reduceCtorEq, pappend, plen, hY, hY1, Nat.mul_one]; refine hK _ _ ?_; clear hK K
      (repeat refine PW.seq ?_); refine PW.rg rfl fun K hK => ?_; simp (maxSteps := 3000000) (disch := omega) only [go_sem, ↓reduceIte, reduceCtorEq, pappend, plen, lf, f2]; refine hK _ _ ?_; clear hK K
      (repeat refine PW.seq ?_); refine PW.block (PW.loop ?_)
      suffices hl2 : ∀ k : Nat, k ≤ 2 → PL Try.prog _ _ [(2, .int .i64 n), (11, .ptr (H.length + 1) 0 0), (109, .slice [.slice (raw.flatMap pac) raw.length gr, .slice (ps.flatMap pac) ps.length false, .slice (Q.flatMap pac) Q.length gq] 3 true), (110, .int .i64 3), (111, .int .i64 (j : Int)), (18, .ptr (H.length + 2) 0 0), (119, .slice [.int .i64 n, .int .i64 (f.ex.length : Int)] 2 true), (120, .int .i64 2), (121, .int .i64 (k : Int))] (H ++ [⟨71, 0, [.slice (raw.flatMap pac) raw.length gr]⟩, ⟨50, 0, flc f⟩, ⟨71, 0, [.slice (Y.flatMap pac) Y.length gy]⟩]) _ by
        exact PL.at [2, 11, 109, 110, 111, 18, 119, 120, 121] (hl2 0 (by omega)) rfl rfl
      intro k hk
      induction hd2 : 2 - k using Nat.strongRecOn generalizing k with
      | _ d2 ih2 =>
        refine PL.round ?_; (repeat refine PW.seq ?_); refine PW.rg rfl fun K hK => ?_; simp (maxSteps := 3000000) (disch := omega) only [go_sem, ↓reduceIte, reduceCtorEq, pappend, plen]; refine hK _ _ ?_; clear hK K
        (repeat refine PW.seq ?_); refine PW.cond (t := _) rfl (fun h => ?_) (fun h => ?_)
        rotate_left
        · refine PW.exit ?_
          (repeat refine PW.seq ?_); refine PW.rg rfl fun K hK => ?_; simp (maxSteps := 3000000) (disch := omega) only [go_sem, ↓reduceIte, reduceCtorEq, pappend, plen]; refine hK _ _ ?_; clear hK K
          refine PL.view (Vs.trim (F1 := [(2, .int .i64 n), (11, .ptr (H.length + 1) 0 0), (109, .slice [.slice (raw.flatMap pac) raw.length gr, .slice (ps.flatMap pac) ps.length false, .slice (Q.flatMap pac) Q.length gq] 3 true), (110, .int .i64 3), (111, .int .i64 ((j + 1 : Nat) : Int))]) (H1 := H ++ [⟨71, 0, [.slice (raw.flatMap pac) raw.length gr]⟩, ⟨50, 0, flc f⟩]) hsc2 (by simp) (List.append_assoc _ [_, _] [_]).symm ?_) (ih (3 - (j + 1)) (by omega) (j + 1) (by omega) rfl)
          rw [List.length_append]
          simp only [List.length_cons, List.length_nil]
          exact ⟨.id (.int _ _), .id (.ptr (by omega)), .id (sl_scoped (plsc _ _ _ _ _ _ _)), .id (.int _ _), .id (.int _ _), trivial⟩
        · have h5 : k < 2 := by have := of_decide_eq_true h; omega
          obtain ⟨m, hm, hm1⟩ : ∃ m : Int, ([.int .i64 n, .int .i64 (f.ex.length : Int)] : List PV)[k]? = some (.int .i64 m) ∧ (-9223372036854775808 ≤ m ∧ m ≤ 9223372036854775807) := by
            have h6 : k = 0 ∨ k = 1 := by omega
            rcases h6 with rfl | rfl
            · exact ⟨n, rfl, hn⟩
            · exact ⟨_, rfl, by omega⟩
          have v1 := fun K => valid_ok Y gy m K hm1 hYl
          have v2 := fun K => valid_ref Y gy m K hm1 hYl
          refine PW.skip ?_; (repeat refine PW.seq ?_); refine PW.block ?_
          (repeat refine PW.seq ?_); refine PW.rg rfl fun K hK => ?_; simp (maxSteps := 3000000) (disch := omega) only [go_sem, ↓reduceIte, reduceCtorEq, pappend, plen, hm]; refine hK _ _ ?_; clear hK K
          (repeat refine PW.seq ?_); refine PW.draw mix (by kernel_rfl) fun K hK => ?_; simp (maxSteps := 3000000) (disch := omega) only [go_sem, ↓reduceIte, reduceCtorEq, pappend, plen]
          (repeat' (first | ((first | refine VO_cond (fun h => ?_) (fun h => ?_) | refine VOd_cond (fun h => ?_) (fun h => ?_) | refine VOg_cond (fun h => ?_) (fun h => ?_) | refine VOh_cond (fun h => ?_) (fun h => ?_) | refine VOi_cond (fun h => ?_) (fun h => ?_) | refine And.intro (fun h => ?_) (fun h => ?_)) <;> (try simp only [Bool.not_eq_true', Bool.not_eq_false', decide_eq_true_eq, decide_eq_false_iff_not] at h) <;> simp (maxSteps := 3000000) (disch := omega) only [go_sem, ↓reduceIte, reduceCtorEq, pappend, plen, h]) | (refine VCx.call (v1 _) rfl ?_; simp (maxSteps := 3000000) (disch := omega) only [go_sem, ↓reduceIte, reduceCtorEq, pappend, plen]) | (refine VCx.call (v2 _) rfl ?_; simp (maxSteps := 3000000) (disch := omega) only [go_sem, ↓reduceIte, reduceCtorEq, pappend, plen]) | (refine VCy.call (v1 _) rfl ?_; simp (maxSteps := 3000000) (disch := omega) only [go_sem, ↓reduceIte, reduceCtorEq, pappend, plen]) | (refine VCy.call (v2 _) rfl ?_; simp (maxSteps := 3000000) (disch := omega) only [go_sem, ↓reduceIte, reduceCtorEq, pappend, plen]) | (refine VCz.call (fun _ => v1 _) rfl ?_; simp (maxSteps := 3000000) (disch := omega) only [go_sem, ↓reduceIte, reduceCtorEq, pappend, plen]) | (refine VCz.call (fun _ => v2 _) rfl ?_; simp (maxSteps := 3000000) (disch := omega) only [go_sem, ↓reduceIte, reduceCtorEq, pappend, plen]) | (refine VCk.call (fun _ _ => v1 _) rfl ?_; simp (maxSteps := 3000000) (disch := omega) only [go_sem, ↓reduceIte, reduceCtorEq, pappend, plen]) | (refine VCk.call (fun _ _ => v2 _) rfl ?_; simp (maxSteps := 3000000) (disch := omega) only [go_sem, ↓reduceIte, reduceCtorEq, pappend, plen])))
          refine hK _ _ ?_; clear hK K
          (repeat refine PW.seq ?_); refine PW.cond (t := _) rfl (fun h => ?_) (fun h => ?_)
          · cases h
          refine PW.skip ?_
          (repeat refine PW.seq ?_); refine PW.rg rfl fun K hK => ?_; simp (maxSteps := 3000000) (disch := omega) only [go_sem, ↓reduceIte, reduceCtorEq, pappend, plen]; refine hK _ _ ?_; clear hK K
          exact PL.at [2, 11, 109, 110, 111, 18, 119, 120, 121] (ih2 (2 - (k + 1)) (by omega) (k + 1) (by omega) rfl) rfl rfl

end Go.Proofs.Ytnjnikafhbholaa.Sc

namespace Go.Proofs.Ytnjnikafhbholaa.Lpx
set_option linter.all false
set_option linter.unusedVariables false
set_option linter.unusedSimpArgs false
open Go.ChangeShapes Go.WideShapes Go.ChangeAt Go.RowKit Pm Sc Lq

theorem law : ∀ xs, ArgsShp Try.prog Try.f11.params.toList xs → CallOk Try.prog 11 xs [] (.bool true) [] := by
  intro xs h
  rw [Try.params11] at h
  obtain ⟨x, r, rfl, hx, h⟩ := h.cons
  obtain ⟨y, r, rfl, hy, h⟩ := h.cons
  obtain ⟨z, r, rfl, hz, h⟩ := h.cons
  obtain ⟨u, r, rfl, hu, h⟩ := h.cons
  obtain ⟨v, r, rfl, hv, h⟩ := h.cons
  obtain rfl := h.nil
  obtain ⟨ps, hp, rfl⟩ := hx.agg (by simp [aggT, Try.underlying71])
  obtain ⟨l, rfl, hl⟩ := shp_plan hp
  obtain ⟨q, hq⟩ := Lo.shp_ints (hy.one (by simp [aggT, Try.underlying46]))
  obtain ⟨n, hn, hn1⟩ := Lo.shp_int64 (hz.one (by simp [aggT, Try.underlying2]))
  obtain ⟨a, ha, _⟩ := Lo.shp_int (hu.one (by simp [aggT, Try.underlying3]))
  obtain ⟨b, hb, _⟩ := Lo.shp_int (hv.one (by simp [aggT, Try.underlying3]))
  cases hq
  cases hn
  cases ha
  cases hb
  exact law_valid l false q false n a b [] hl hn1

set_option maxRecDepth 100000 in
theorem planValid_lifted (os : Os) (started : os.Started) (H : Type) (enc : TypeId × Value → H) :
    ReturnsInHanded {} Try.checked os 11 .any (Rows.planValidSpec.pre6 enc Try.prog Try.f11 Rows.planValidRow.domain false) (Rows.planValidSpec.post enc Try.prog Try.f11 false true false false) := by
  refine returnsInHanded_of_change (C := Try.checked) own started (by kernel_rfl) Try.func11
    (ChangeSpec.witness6 (enc := enc) (C := Try.checked) false ⟨#[], #[.agg #[.slice none 0 0], .slice none 0 0, .int .i64 0, .int .i64 0, .int .i64 0], []⟩ 8 (by kernel_rfl) (by kernel_rfl) (by kernel_rfl) (by kernel_rfl)) ?_
  intro W base args ds gs before hval hW _ _
  exact law_call (P := Try.prog) (fn := Try.f11) (n := 12) (tb := 4) (b0 := base) (r := .any) law laidOut (by kernel_rfl) (by kernel_rfl) (by kernel_rfl) Try.underlying4 rfl
    (fun ds hd => match ds, hd with | [d0, d1, d2, d3, d4], _ => rfl) hval hW

theorem planValid_holds : Rows.PlanValidSaid :=
  OpenClaim.holds_of_wide 11 Try.f11 rfl rfl rfl rfl rfl rfl rfl ⟨rfl, rfl, rfl, rfl, rfl⟩ rfl rfl rfl rfl rfl (by kernel_rfl) Try.func11 (by kernel_rfl)
    (of_decide_eq_true (by kernel_rfl)) (by unfold Func.isWrapper; first | (rw [if_pos (by decide +kernel)]; kernel_rfl) | (rw [if_neg (by decide +kernel)]; exact ⟨rfl, rfl⟩))
    (fun os started H enc _ => planValid_lifted os started H enc)

end Go.Proofs.Ytnjnikafhbholaa.Lpx
