/-
  The law PlanCovers.
-/
import Derived.Test.YtnjnikafhbholaaQr
namespace Go.Proofs.Ytnjnikafhbholaa.Sc
set_option linter.all false
set_option linter.unusedVariables false
set_option linter.unusedSimpArgs false
open Pm Ty Go.RowKit
open Pl (Pa Sh PF PaOk arr sh kd adj st en pts cpd jn ext shm shn tys)

theorem ixs_nm (L : List Int) (s : Sq) (a : Nat) : ∀ m, ∀ x ∈ (ixs L s a m).1, x.nm ≠ []
  | 0, x, hx => by simp [ixs] at hx
  | m + 1, x, hx => by
    simp only [ixs, List.mem_append, List.mem_singleton] at hx
    rcases hx with hx | rfl
    · exact ixs_nm L s a m x hx
    · simp [ix1, nm]
theorem flm_nm (L : List Int) : ∀ x ∈ (flm L).me, x.nm ≠ [] := ixs_nm L (flS L) 2 3
theorem first_I' {l : List (Option Sh)} (h3 : Pl.T3 l) {i : Nat} {m : List UInt8} {n k : Int} (hx : sh l (i + 0) = some ⟨m, n, k⟩) (hc : cpd l i = true) (hj : jn l i = false) : k = 1 := Pl.first_I h3 hx hc hj
theorem last_nb' {l : List (Option Sh)} (h3 : Pl.T3 l) {i : Nat} {m : List UInt8} {n k : Int} (hx : sh l i = some ⟨m, n, k⟩) (hc : cpd l i = true) (hj : jn l (i + 1) = false) : k ≠ 3 := Pl.last_nb h3 hx hc hj
/-- What is known of a film's frames. -/
structure FlS (f : Fl) (l : List (Option Sh)) : Prop where
  len : l.length = f.ex.length
  nb : NB l
  t3 : Pl.T3 l
  nm : ∀ i x, sh l i = some x → x.m ≠ []
  sh : ∀ i x, sh l i = some x → i < f.ex.length ∧ exAt f.ex i = ⟨1, x.m, x.n, 0, 0, 0, [], [], 0, true⟩ ∧ ∃ k, fnd f.me x.m f.me.length = some k ∧ k < f.me.length ∧ usb f.s f.top (ixAt f.me k) x.n = true ∧ x.k = (enAt (ixAt f.me k).en x.n.toNat).ty
theorem flS_ok (f : Fl) (hf : FlM f) (hn : ∀ x ∈ f.me, x.nm ≠ []) : FlS f (f.ex.map (shOf f.s f.top f.me)) := by
  have key : ∀ i x, sh (f.ex.map (shOf f.s f.top f.me)) i = some x → i < f.ex.length ∧ exAt f.ex i = ⟨1, x.m, x.n, 0, 0, 0, [], [], 0, true⟩ ∧ ∃ k, fnd f.me x.m f.me.length = some k ∧ k < f.me.length ∧ usb f.s f.top (ixAt f.me k) x.n = true ∧ x.k = (enAt (ixAt f.me k).en x.n.toNat).ty := fun i x hx => by
    obtain ⟨h1, h2⟩ := sh_ex hx
    obtain ⟨k, a1, a2, a3, rfl⟩ := shOf_ok h2
    refine ⟨h1, ?_, k, a1, (fnd_lt a1).1, a2, rfl⟩
    have he := hf.ex (exAt f.ex i) (getD_mem ex0 f.ex i h1)
    obtain ⟨b1, b2, b3, b4, b5, b6, b7, _⟩ := he.src a3
    generalize exAt f.ex i = e at *
    obtain ⟨op, m, fr, x3, x4, x5, x6, xs, n, g⟩ := e
    dsimp only at *
    rw [a3, b1, b2, b3, b4, b5, b6, b7]
  refine ⟨by rw [List.length_map], NB_map _ _ _ _ (fun k hk => by have := (hf.ix _ (getD_mem ix0 f.me k hk)).2; unfold ixAt; omega), fun i x hx => ?_, fun i x hx => ?_, key⟩
  · obtain ⟨_, _, k, _, k1, k2, k3⟩ := key i x hx
    have hmem : enAt (ixAt f.me k).en x.n.toNat ∈ (ixAt f.me k).en := getD_mem (⟨0, false, 0, false, false⟩ : En) (ixAt f.me k).en x.n.toNat (by have := usb_rng k2; omega)
    have := hf.ty (ixAt f.me k) (getD_mem ix0 f.me k k1) _ hmem
    rw [k3]
    omega
  · obtain ⟨_, _, k, a1, k1, _, _⟩ := key i x hx
    rw [← (fnd_lt a1).2]
    exact hn _ (getD_mem ix0 f.me k k1)

set_option maxRecDepth 100000 in
set_option maxHeartbeats 8000000 in
theorem law_covers (L : List Int) (g : Bool) (H : Heap) : CallOk Try.prog 12 [.slice (is L) L.length g] H (.bool true) H := by
  have mo := fun K => made_ok L g K
  have hf := flm_more L
  have hfs := flS_ok _ hf (flm_nm L)
  generalize flm L = f at *
  have lf := flc_len f hf.s
  have cf := flc_c f
  have ls := sqc_len f.s hf.s
  have f0 : (flc f).take 135 = sqc f.s := by
    unfold flc
    rw [← ls]; exact List.take_left
  have f1 : (flc f)[135]? = some (.bool f.top) := by unfold flc; rw [List.getElem?_append_right (by omega), ls]; rfl
  have f2 : (flc f)[136]? = some (.slice (f.ex.flatMap exc) f.ex.length false) := by unfold flc; rw [List.getElem?_append_right (by omega), ls]; rfl
  have f3 : (flc f)[137]? = some (.slice (f.me.flatMap ixc) f.me.length false) := by unfold flc; rw [List.getElem?_append_right (by omega), ls]; rfl
  have s1 := fun n => exl_sc n f.ex hf.ex
  have hME : ∀ x ∈ f.me, SqL x.sq ∧ x.en.length ≤ 1000000 := fun x hx => ⟨(hf.ix x hx).1, by have := (hf.ix x hx).2; omega⟩
  have hme := hf.me
  have hn := hf.n
  have k2 := fun K => make_ok f.s f.top f.ex false f.me false K hf.ok hf.vs hME (by omega) (by omega) s1
  have p2 := (Pl.pts_ok (f.ex.map (shOf f.s f.top f.me)) f.ex.length).front
  have b2 := (pts_PB (f.ex.map (shOf f.s f.top f.me)) f.ex.length).2
  generalize f.ex.map (shOf f.s f.top f.me) = l at *
  have hv := vld_pts hfs.nb hfs.nm p2
  have hje : jn l f.ex.length = false := by rw [← hfs.len]; exact Pl.jn_end l
  generalize pts l f.ex.length = ps at *
  have v1 := fun K => valid_ok ps false (f.ex.length : Int) K (by omega) (by omega)
  have v2 := fun K => valid_ref ps false (f.ex.length : Int) K (by omega) (by omega)
  change vld (f.ex.length : Int) 0 ps = true at hv
  rw [hv] at v1 v2
  have fo := fun K m => find_ok f.me false m K (fun x hx => (hME x hx).1) (by omega)
  have c1 := exl_len f.ex
  have hp5 := pal_len ps
  have hat := pal_at ps
  have hlM := ixl_len f.me (fun x hx => (hME x hx).1)
  have hxat := fun k => fm_at' ixc 137 ix0 f.me k (fun x hx => ixc_len x (hME x hx).1)
  change ∀ k, k < f.me.length → List.take 137 (List.drop (k * 137) (f.me.flatMap ixc)) = ixc (ixAt f.me k) at hxat
  have hea := fun j => fm_at exc 8 (fun _ => rfl) ex0 f.ex j
  change ∀ j, j < f.ex.length → List.take 8 (List.drop (j * 8) (f.ex.flatMap exc)) = exc (exAt f.ex j) at hea
  refine CallOk.body (F0 := [(0, .slice (is L) L.length g)]) Try.func12 rfl Try.ntmps12 Try.results12 rfl (by kernel_rfl) rfl ?_
  (repeat refine PW.seq ?_); refine PW.rg rfl fun K hK => ?_; simp (maxSteps := 3000000) (disch := omega) only [go_sem, ↓reduceIte, reduceCtorEq, pappend, plen]; refine hK _ _ ?_; clear hK K
  (repeat refine PW.seq ?_); refine PW.rg rfl fun K hK => ?_; simp (maxSteps := 3000000) (disch := omega) only [go_sem, ↓reduceIte, reduceCtorEq, pappend, plen, lf, cf]; refine VCx.call (mo _) rfl ?_; simp (maxSteps := 3000000) (disch := omega) only [go_sem, ↓reduceIte, reduceCtorEq, pappend, plen, lf, cf]; refine hK _ _ ?_; clear hK K
  (repeat refine PW.seq ?_); refine PW.rg rfl fun K hK => ?_; simp (maxSteps := 3000000) (disch := omega) only [go_sem, ↓reduceIte, reduceCtorEq, pappend, plen, lf, f0, f1, f2, f3]; refine VCx.call (k2 _) rfl ?_; simp (maxSteps := 3000000) (disch := omega) only [go_sem, ↓reduceIte, reduceCtorEq, pappend, plen, lf, f0, f1, f2, f3]; refine hK _ _ ?_; clear hK K
  (repeat refine PW.seq ?_); refine PW.rg rfl fun K hK => ?_; simp (maxSteps := 3000000) (disch := omega) only [go_sem, ↓reduceIte, reduceCtorEq, pappend, plen, lf, f2]
  (repeat' (first | ((first | refine VO_cond (fun h => ?_) (fun h => ?_) | refine VOd_cond (fun h => ?_) (fun h => ?_) | refine VOg_cond (fun h => ?_) (fun h => ?_) | refine VOh_cond (fun h => ?_) (fun h => ?_) | refine VOi_cond (fun h => ?_) (fun h => ?_) | refine And.intro (fun h => ?_) (fun h => ?_)) <;> (try simp only [Bool.not_eq_true', Bool.not_eq_false', decide_eq_true_eq, decide_eq_false_iff_not] at h) <;> simp (maxSteps := 3000000) (disch := omega) only [go_sem, ↓reduceIte, reduceCtorEq, pappend, plen, lf, f2, h]) | (refine VCx.call (v1 _) rfl ?_; simp (maxSteps := 3000000) (disch := omega) only [go_sem, ↓reduceIte, reduceCtorEq, pappend, plen, lf, f2]) | (refine VCx.call (v2 _) rfl ?_; simp (maxSteps := 3000000) (disch := omega) only [go_sem, ↓reduceIte, reduceCtorEq, pappend, plen, lf, f2]) | (refine VCy.call (v1 _) rfl ?_; simp (maxSteps := 3000000) (disch := omega) only [go_sem, ↓reduceIte, reduceCtorEq, pappend, plen, lf, f2]) | (refine VCy.call (v2 _) rfl ?_; simp (maxSteps := 3000000) (disch := omega) only [go_sem, ↓reduceIte, reduceCtorEq, pappend, plen, lf, f2]) | (refine VCz.call (fun _ => v1 _) rfl ?_; simp (maxSteps := 3000000) (disch := omega) only [go_sem, ↓reduceIte, reduceCtorEq, pappend, plen, lf, f2]) | (refine VCz.call (fun _ => v2 _) rfl ?_; simp (maxSteps := 3000000) (disch := omega) only [go_sem, ↓reduceIte, reduceCtorEq, pappend, plen, lf, f2]) | (refine VCk.call (fun _ _ => v1 _) rfl ?_; simp (maxSteps := 3000000) (disch := omega) only [go_sem, ↓reduceIte, reduceCtorEq, pappend, plen, lf, f2]) | (refine VCk.call (fun _ _ => v2 _) rfl ?_; simp (maxSteps := 3000000) (disch := omega) only [go_sem, ↓reduceIte, reduceCtorEq, pappend, plen, lf, f2])))
  refine hK _ _ ?_; clear hK K
  (repeat refine PW.seq ?_); refine PW.cond (t := _) rfl (fun h => ?_) (fun h => ?_)
  · cases h
  refine PW.skip ?_
  (repeat refine PW.seq ?_); refine PW.rg rfl fun K hK => ?_; simp (maxSteps := 3000000) (disch := omega) only [go_sem, ↓reduceIte, reduceCtorEq, pappend, plen]; refine hK _ _ ?_; clear hK K
  (repeat refine PW.seq ?_); refine PW.block (PW.loop ?_)
  suffices hl1 : ∀ (j c : Nat) (pc : Bool), j ≤ ps.length → PF l pc c (ps.drop j) f.ex.length → (0 < j → pc = !(paAt ps (j - 1)).cp) → PL Try.prog _ _ [(3, .ptr H.length 0 0), (4, .ptr (H.length + 1) 0 0), (44, .slice (ps.flatMap pac) ps.length false), (45, .int .i64 (ps.length : Int)), (46, .int .i64 (j : Int))] (H ++ [⟨50, 0, flc f⟩, ⟨71, 0, [.slice (ps.flatMap pac) ps.length false]⟩]) _ by
    exact PL.at [3, 4, 44, 45, 46] (hl1 0 0 false (by omega) (by simpa using p2) (fun h => by omega)) rfl rfl
  intro j c pc hj hpf hpc
  induction hd : ps.length - j using Nat.strongRecOn generalizing j c pc with
  | _ d ih =>
    refine PL.round ?_; (repeat refine PW.seq ?_); refine PW.rg rfl fun K hK => ?_; simp (maxSteps := 3000000) (disch := omega) only [go_sem, ↓reduceIte, reduceCtorEq, pappend, plen]; refine hK _ _ ?_; clear hK K
    (repeat refine PW.seq ?_); refine PW.cond (t := _) rfl (fun h => ?_) (fun h => ?_)
    rotate_left
    · refine PW.exit ?_
      (repeat refine PW.seq ?_); refine PW.rg rfl fun K hK => ?_; simp (maxSteps := 3000000) (disch := omega) only [go_sem, ↓reduceIte, reduceCtorEq, pappend, plen]; refine VCx.call (awake31 _) rfl ?_; simp (maxSteps := 3000000) (disch := omega) only [go_sem, ↓reduceIte, reduceCtorEq, pappend, plen]; refine hK _ _ ?_; clear hK K
      (refine PW.ret ⟨_, rfl, ?_⟩; first | refine .inl ⟨?_, rfl⟩ | refine Fin.base (.id' ?_ (.bool _)) | refine Fin.base (.id' ?_ (.int _ _)))
      rfl
    · have h4 : j < ps.length := by have := of_decide_eq_true h; omega
      have hat' := hat j h4
      rw [drop_at ps j h4] at hpf
      obtain ⟨c', hpa, hpcc, hjc, hrest⟩ := PF.at hpf
      have hnext : 0 < j + 1 → (!(paAt ps j).cp) = !(paAt ps (j + 1 - 1)).cp := fun _ => by rw [Nat.add_sub_cancel]
      have hjr := hrest.jn hje
      generalize hpj : paAt ps j = p at *
      obtain ⟨cp, film, len, m, fr⟩ := p
      obtain ⟨q1, q2, q3, q4, q5⟩ := hpa
      dsimp only at q1 q2 q4 q5 hrest hpcc hnext
      have hcn := hrest.le
      simp only [pac] at hat'
      have nx : PL Try.prog _ _ [(3, .ptr H.length 0 0), (4, .ptr (H.length + 1) 0 0), (44, .slice (ps.flatMap pac) ps.length false), (45, .int .i64 (ps.length : Int)), (46, .int .i64 ((j + 1 : Nat) : Int))] (H ++ [⟨50, 0, flc f⟩, ⟨71, 0, [.slice (ps.flatMap pac) ps.length false]⟩]) _ := ih (ps.length - (j + 1)) (by omega) (j + 1) c' (!cp) (by omega) hrest hnext rfl
      have nxt := fun (F : Fr) (h3 : slot F 3 = .ptr H.length 0 0) (h4 : slot F 4 = .ptr (H.length + 1) 0 0) (h44 : slot F 44 = .slice (ps.flatMap pac) ps.length false) (h45 : slot F 45 = .int .i64 (ps.length : Int)) (h46 : slot F 46 = .int .i64 ((j + 1 : Nat) : Int)) => PL.view (F := F) (Vs.trim (H := H ++ [⟨50, 0, flc f⟩, ⟨71, 0, [.slice (ps.flatMap pac) ps.length false]⟩, ⟨77, 0, [.bool cp, .int .i64 film, .int .i64 len, .str m, .int .i64 fr]⟩]) (hscU 2 (by
        intro q hq x hx
        simp only [List.mem_cons, List.not_mem_nil, or_false] at hq
        rcases hq with rfl | rfl
        · exact flc_sc _ _ hf.ex _ hx
        · simp only [List.mem_singleton] at hx
          rw [hx]; exact sl_scoped (pal_sc _ _))) (by simp) (List.append_assoc _ [_, _] [_]).symm (by
        rw [List.length_append]
        simp only [List.length_cons, List.length_nil]
        refine ⟨?_, ?_, ?_, ?_, ?_, trivial⟩
        · rw [h3]; exact .id (.ptr (by omega))
        · rw [h4]; exact .id (.ptr (by omega))
        · rw [h44]; exact .id (sl_scoped (pal_sc _ _))
        · rw [h45]; exact .id (.int _ _)
        · rw [h46]; exact .id (.int _ _))) nx
      refine PW.skip ?_; (repeat refine PW.seq ?_); refine PW.block ?_
      (repeat refine PW.seq ?_); refine PW.rg rfl fun K hK => ?_; simp (maxSteps := 3000000) (disch := omega) only [go_sem, ↓reduceIte, reduceCtorEq, pappend, plen, hat', hp5]; refine hK _ _ ?_; clear hK K
      (repeat refine PW.seq ?_); refine PW.rg rfl fun K hK => ?_; simp (maxSteps := 3000000) (disch := omega) only [go_sem, ↓reduceIte, reduceCtorEq, pappend, plen]; refine hK _ _ ?_; clear hK K
      (repeat refine PW.seq ?_); refine PW.cond (t := _) rfl (fun h => ?_) (fun h => ?_)
      · have hcp : cp = false := by simpa using h
        subst hcp
        have hpre : 0 < j → (ps.flatMap pac)[(j - 1) * 5]? = some (.bool true) := fun hj0 => by
          have h0 := get_of_take (j := 0) (hat (j - 1) (by omega)) (by omega)
          rw [Nat.add_zero] at h0
          have := hpc hj0
          rw [hpcc rfl] at this
          rw [h0]
          have e : (paAt ps (j - 1)).cp = true := by simpa using this.symm
          simp [pac, e]
        by_cases hj0 : 0 < j
        · have hpre' := hpre hj0
          have e3 : ((j : Int) - 1) = ((j - 1 : Nat) : Int) := by omega
          have d1 : decide (0 < (j : Int)) = true := decide_eq_true (by omega)
          (repeat refine PW.seq ?_); refine PW.rg rfl fun K hK => ?_; simp (maxSteps := 3000000) (disch := omega) only [go_sem, ↓reduceIte, reduceCtorEq, pappend, plen, d1, e3, hpre', hp5]; refine hK _ _ ?_; clear hK K
          (repeat refine PW.seq ?_); refine PW.cond (t := _) rfl (fun h => ?_) (fun h => ?_)
          · cases h
          refine PW.skip ?_
          refine PW.exit ?_
          (repeat refine PW.seq ?_); refine PW.rg rfl fun K hK => ?_; simp (maxSteps := 3000000) (disch := omega) only [go_sem, ↓reduceIte, reduceCtorEq, pappend, plen]; refine hK _ _ ?_; clear hK K
          exact nxt _ rfl rfl rfl rfl rfl
        · have d1 : decide (0 < (j : Int)) = false := decide_eq_false (by omega)
          (repeat refine PW.seq ?_); refine PW.rg rfl fun K hK => ?_; simp (maxSteps := 3000000) (disch := omega) only [go_sem, ↓reduceIte, reduceCtorEq, pappend, plen, d1]; refine hK _ _ ?_; clear hK K
          (repeat refine PW.seq ?_); refine PW.cond (t := _) rfl (fun h => ?_) (fun h => ?_)
          · cases h
          refine PW.skip ?_
          refine PW.exit ?_
          (repeat refine PW.seq ?_); refine PW.rg rfl fun K hK => ?_; simp (maxSteps := 3000000) (disch := omega) only [go_sem, ↓reduceIte, reduceCtorEq, pappend, plen]; refine hK _ _ ?_; clear hK K
          exact nxt _ rfl rfl rfl rfl rfl
      · have hcp : cp = true := by simpa using h
        subst hcp
        refine PW.skip ?_
        have hfr : ∀ t : Nat, c + t < c' → ∃ k, sh l (c + t) = some ⟨m, fr + (t : Int), k⟩ := fun t ht => by
          obtain ⟨_, _, k, hk⟩ := q5 rfl (c + t) (by omega) (by omega)
          refine ⟨k, ?_⟩
          rw [hk]
          congr 2
          omega
        obtain ⟨N, rfl⟩ : ∃ N, c' = c + N := ⟨c' - c, by omega⟩
        obtain rfl : len = (N : Int) := by omega
        obtain ⟨ka, hka⟩ := hfr 0 (by omega)
        obtain ⟨_, _, q, hfq, hqlt, _, _⟩ := hfs.sh _ _ hka
        dsimp only at hfq
        have hnba := hfs.nb _ _ hka
        dsimp only at hnba
        have hus : ∀ t : Nat, c + t < c + N → usb f.s f.top (ixAt f.me q) (fr + (t : Int)) = true ∧ exAt f.ex (c + t) = ⟨1, m, fr + (t : Int), 0, 0, 0, [], [], 0, true⟩ ∧ c + t < f.ex.length ∧ ∃ k, sh l (c + t) = some ⟨m, fr + (t : Int), k⟩ ∧ k = (enAt (ixAt f.me q).en (fr + (t : Int)).toNat).ty := fun t ht => by
          obtain ⟨k, hk⟩ := hfr t ht
          obtain ⟨a1, a2, q', a3, _, a4, a5⟩ := hfs.sh _ _ hk
          dsimp only at a3 a4 a5 a2
          rw [hfq] at a3
          cases a3
          exact ⟨a4, a2, a1, k, hk, a5⟩
        have hfd : fdI (fnd f.me m f.me.length) = (q : Int) := by rw [hfq]; rfl
        have fo' := fun K => fo K m
        rw [hfd] at fo'
        have hx := hME _ (getD_mem ix0 f.me q hqlt)
        change SqL (ixAt f.me q).sq ∧ (ixAt f.me q).en.length ≤ 1000000 at hx
        have hxa := hxat q hqlt
        have lx := ixc_len _ hx.1
        have x136 := get_of_take (j := 136) hxa (by omega)
        have x136' : (ixc (ixAt f.me q))[136]? = some (.slice ((ixAt f.me q).en.flatMap enc) (ixAt f.me q).en.length (ixAt f.me q).g) := by
          unfold ixc
          rw [List.getElem?_cons_succ, List.getElem?_append_right (by rw [sqc_len _ hx.1]; omega), sqc_len _ hx.1]
          rfl
        rw [x136'] at x136
        have hE5 := fm_len enc 5 (fun _ => rfl) (ixAt f.me q).en
        have hEat := fun (i : Nat) (hi : i < (ixAt f.me q).en.length) => fm_at enc 5 (fun _ => rfl) ⟨0, false, 0, false, false⟩ (ixAt f.me q).en i hi
        have uo := fun K k => usb_ok f.s f.top (ixAt f.me q) k K hf.s hx.1 (by omega)
        have hlast := (hus (N - 1) (by omega)).1
        have hr1 := usb_rng hlast
        have hfst := first_I' hfs.t3 hka (q5 rfl c (by omega) (by omega)).1 hjc
        obtain ⟨_, _, _, kb, hkb, hkb2⟩ := hus (N - 1) (by omega)
        have hlst := last_nb' hfs.t3 hkb (q5 rfl (c + (N - 1)) (by omega) (by omega)).1 (by rw [show c + (N - 1) + 1 = c + N by omega]; exact hjr)
        obtain ⟨_, _, _, ka', hka', hka2⟩ := hus 0 (by omega)
        rw [hka] at hka'
        cases hka'
        generalize ixAt f.me q = x at *
        obtain ⟨a, rfl⟩ : ∃ a : Nat, fr = (a : Int) := ⟨fr.toNat, by omega⟩
        have eN : (a : Int) + (N : Int) = ((a + N : Nat) : Int) := by omega
        have e0 : ∀ t : Nat, (a : Int) + (t : Int) = ((a + t : Nat) : Int) := fun t => by omega
        have e1 : (N : Int) - 1 = ((N - 1 : Nat) : Int) := by omega
        have hsl : ∀ i, i < N → (List.take (N * 5) (List.drop (a * 5) (x.en.flatMap enc)))[i * 5]? = some (.int .i64 (enAt x.en (a + i)).ty) := fun i hi => by
          have := get_of_take (j := 0) (hEat (a + i) (by omega)) (by omega)
          rw [List.getElem?_take_of_lt (by omega), List.getElem?_drop, show a * 5 + i * 5 = (a + i) * 5 + 0 by omega, this]
          rfl
        have hsl0 := hsl 0 (by omega)
        have hsl1 := hsl (N - 1) (by omega)
        rw [Nat.add_zero] at hsl0
        have t0 : (enAt x.en a).ty = 1 := by rw [← hfst, hka2]; simp
        have t1 : (enAt x.en (a + (N - 1))).ty ≠ 3 := by
          rw [hkb2] at hlst
          rw [e0] at hlst
          exact hlst
        rw [t0] at hsl0
        have d1 : decide ((q : Int) < 0) = false := decide_eq_false (by omega)
        have d2 : decide ((x.en.length : Int) < ((a + N : Nat) : Int)) = false := decide_eq_false (by omega)
        have d3 : ((enAt x.en (a + (N - 1))).ty == 3) = false := by simp [t1]
        have eS : a + N - a = N := by omega
        (repeat refine PW.seq ?_); refine PW.rg rfl fun K hK => ?_; simp (maxSteps := 3000000) (disch := omega) only [go_sem, ↓reduceIte, reduceCtorEq, pappend, plen, lf, f3]; refine VCx.call (fo' _) rfl ?_; simp (maxSteps := 3000000) (disch := omega) only [go_sem, ↓reduceIte, reduceCtorEq, pappend, plen, lf, f3]; refine hK _ _ ?_; clear hK K
        (repeat refine PW.seq ?_); refine PW.draw mix (by kernel_rfl) fun K hK => ?_; simp (maxSteps := 3000000) (disch := omega) only [go_sem, ↓reduceIte, reduceCtorEq, pappend, plen, d1, d2, lf, f3, x136, hlM, eN]; refine hK _ _ ?_; clear hK K
        (repeat refine PW.seq ?_); refine PW.cond (t := _) rfl (fun h => ?_) (fun h => ?_)
        · cases h
        refine PW.skip ?_
        (repeat refine PW.seq ?_); refine PW.draw mix (by kernel_rfl) fun K hK => ?_; simp (maxSteps := 3000000) (disch := omega) only [go_sem, ↓reduceIte, reduceCtorEq, pappend, plen, lf, f3, x136, hlM, eN, eS, hE5]; refine hK _ _ ?_; clear hK K
        (repeat refine PW.seq ?_); refine PW.rg rfl fun K hK => ?_; simp (maxSteps := 3000000) (disch := omega) only [go_sem, ↓reduceIte, reduceCtorEq, pappend, plen, hsl0, hsl1, e1, d3, hE5, List.length_take, List.length_drop]; refine hK _ _ ?_; clear hK K
        (repeat refine PW.seq ?_); refine PW.cond (t := _) rfl (fun h => ?_) (fun h => ?_)
        · cases h
        refine PW.skip ?_
        (repeat refine PW.seq ?_); refine PW.rg rfl fun K hK => ?_; simp (maxSteps := 3000000) (disch := omega) only [go_sem, ↓reduceIte, reduceCtorEq, pappend, plen]; refine hK _ _ ?_; clear hK K
        (repeat refine PW.seq ?_); refine PW.block (PW.loop ?_)
        suffices hl2 : ∀ t : Nat, t ≤ N → PL Try.prog _ _ [(3, .ptr H.length 0 0), (4, .ptr (H.length + 1) 0 0), (7, .ptr (H.length + 2) 0 0), (8, .int .i64 (q : Int)), (10, .int .i64 (t : Int)), (44, .slice (ps.flatMap pac) ps.length false), (45, .int .i64 (ps.length : Int)), (46, .int .i64 (j : Int))] (H ++ [⟨50, 0, flc f⟩, ⟨71, 0, [.slice (ps.flatMap pac) ps.length false]⟩, ⟨77, 0, [.bool true, .int .i64 film, .int .i64 (N : Int), .str m, .int .i64 (a : Int)]⟩]) _ by
          exact PL.at [3, 4, 7, 8, 10, 44, 45, 46] (hl2 0 (by omega)) rfl rfl
        intro t ht
        induction hd2 : N - t using Nat.strongRecOn generalizing t with
        | _ d2 ih2 =>
          refine PL.round ?_; (repeat refine PW.seq ?_); refine PW.rg rfl fun K hK => ?_; simp (maxSteps := 3000000) (disch := omega) only [go_sem, ↓reduceIte, reduceCtorEq, pappend, plen]; refine hK _ _ ?_; clear hK K
          (repeat refine PW.seq ?_); refine PW.cond (t := _) rfl (fun h => ?_) (fun h => ?_)
          rotate_left
          · refine PW.exit ?_
            (repeat refine PW.seq ?_); refine PW.rg rfl fun K hK => ?_; simp (maxSteps := 3000000) (disch := omega) only [go_sem, ↓reduceIte, reduceCtorEq, pappend, plen]; refine hK _ _ ?_; clear hK K
            exact nxt _ rfl rfl rfl rfl rfl
          · have h5 : t < N := by have := of_decide_eq_true h; omega
            obtain ⟨w1, w2, w3, _⟩ := hus t (by omega)
            rw [e0] at w1 w2
            have hea' := hea (c + t) w3
            rw [w2] at hea'
            simp only [exc] at hea'
            have uo' := fun K => uo K ((a + t : Nat) : Int)
            rw [w1] at uo'
            have e4 : film + (t : Int) = ((c + t : Nat) : Int) := by omega
            have e0' := e0 t
            refine PW.skip ?_; (repeat refine PW.seq ?_); refine PW.block ?_
            (repeat refine PW.seq ?_); refine PW.draw mix (by kernel_rfl) fun K hK => ?_; simp (maxSteps := 3000000) (disch := omega) only [go_sem, ↓reduceIte, reduceCtorEq, pappend, plen, lf, f0, f1, f3, hxa, hlM, lx, e0']
            (repeat' (first | ((first | refine VO_cond (fun h => ?_) (fun h => ?_) | refine VOd_cond (fun h => ?_) (fun h => ?_) | refine VOg_cond (fun h => ?_) (fun h => ?_) | refine VOh_cond (fun h => ?_) (fun h => ?_) | refine VOi_cond (fun h => ?_) (fun h => ?_) | refine And.intro (fun h => ?_) (fun h => ?_)) <;> (try simp only [Bool.not_eq_true', Bool.not_eq_false', decide_eq_true_eq, decide_eq_false_iff_not] at h) <;> simp (maxSteps := 3000000) (disch := omega) only [go_sem, ↓reduceIte, reduceCtorEq, pappend, plen, lf, f2, c1, hea', e4, e0', h]) | (refine VCx.call (uo' _) rfl ?_; simp (maxSteps := 3000000) (disch := omega) only [go_sem, ↓reduceIte, reduceCtorEq, pappend, plen, lf, f2, c1, hea', e4, e0']) | (refine VCx.call (sameS _ _ _) rfl ?_; simp (maxSteps := 3000000) (disch := omega) only [go_sem, ↓reduceIte, reduceCtorEq, pappend, plen, lf, f2, c1, hea', e4, e0']) | (refine VCy.call (uo' _) rfl ?_; simp (maxSteps := 3000000) (disch := omega) only [go_sem, ↓reduceIte, reduceCtorEq, pappend, plen, lf, f2, c1, hea', e4, e0']) | (refine VCy.call (sameS _ _ _) rfl ?_; simp (maxSteps := 3000000) (disch := omega) only [go_sem, ↓reduceIte, reduceCtorEq, pappend, plen, lf, f2, c1, hea', e4, e0']) | (refine VCz.call (fun _ => uo' _) rfl ?_; simp (maxSteps := 3000000) (disch := omega) only [go_sem, ↓reduceIte, reduceCtorEq, pappend, plen, lf, f2, c1, hea', e4, e0']) | (refine VCz.call (fun _ => sameS _ _ _) rfl ?_; simp (maxSteps := 3000000) (disch := omega) only [go_sem, ↓reduceIte, reduceCtorEq, pappend, plen, lf, f2, c1, hea', e4, e0']) | (refine VCk.call (fun _ _ => uo' _) rfl ?_; simp (maxSteps := 3000000) (disch := omega) only [go_sem, ↓reduceIte, reduceCtorEq, pappend, plen, lf, f2, c1, hea', e4, e0']) | (refine VCk.call (fun _ _ => sameS _ _ _) rfl ?_; simp (maxSteps := 3000000) (disch := omega) only [go_sem, ↓reduceIte, reduceCtorEq, pappend, plen, lf, f2, c1, hea', e4, e0'])))
            refine hK _ _ ?_; clear hK K
            (repeat refine PW.seq ?_); refine PW.cond (t := _) rfl (fun h => ?_) (fun h => ?_)
            · cases h
            refine PW.skip ?_
            (repeat refine PW.seq ?_); refine PW.rg rfl fun K hK => ?_; simp (maxSteps := 3000000) (disch := omega) only [go_sem, ↓reduceIte, reduceCtorEq, pappend, plen]; refine hK _ _ ?_; clear hK K
            exact PL.at [3, 4, 7, 8, 10, 44, 45, 46] (ih2 (N - (t + 1)) (by omega) (t + 1) (by omega) rfl) rfl rfl

end Go.Proofs.Ytnjnikafhbholaa.Sc
