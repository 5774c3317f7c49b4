/-
  Parts of the proof, put together in one text. No condition.
-/
import Derived.Test.YtahomnplappbpaaGreatDoorW41
import Derived.Test.YtahomnplappbpaaGreatDoorW42
import Derived.Test.YtahomnplappbpaaGreatDoorW37
namespace Go.Proofs.YtahomnplappbpaaGreatDoor.Sc
set_option linter.all false
set_option linter.unusedVariables false
set_option linter.unusedSimpArgs false
open Pm Ty Go.RowKit

/-! ### directions one after the other -/
def goR (c : Cx) (M : Mb) (pa fu fi : Fm) (mx my : Int) : Nat → Fm → Fm × Int
  | 0, out => (out, 0)
  | n + 1, out => if us M (1 - n) = true then (if (dirD c M pa fu fi (1 - n) mx my).2 ≠ 0 then (f0, (dirD c M pa fu fi (1 - n) mx my).2) else goR c M pa fu fi mx my n (if 1 - n = 1 ∧ us M 0 = true then mnF out (dirD c M pa fu fi (1 - n) mx my).1 else (dirD c M pa fu fi (1 - n) mx my).1)) else goR c M pa fu fi mx my n out
theorem goR_none (c : Cx) (M : Mb) (pa fu fi : Fm) (mx my : Int) (h0 : M.ua = false) (h1 : M.ub = false) (out : Fm) : goR c M pa fu fi mx my 2 out = (out, 0) := by
  have u0 : us M (1 - 1) = false := h0
  have u1 : us M (1 - 0) = false := h1
  rw [goR, u0, if_neg (by simp), goR, u1, if_neg (by simp), goR]
theorem goR_prS (c : Cx) (m : Mb) (pa fu fi : Fm) (mx my : Int) (h : m.ua = true ∨ m.ub = true) (out : Fm) : goR c m pa fu fi mx my 2 out = prS c m pa fu fi mx my := by
  have d0 : dirD c m pa fu fi 0 mx my = dir0 c m pa fu fi mx my := rfl
  have d1 : dirD c m pa fu fi 1 mx my = dir1 c m pa fu fi mx my := rfl
  have u0 : us m 0 = m.ua := rfl
  have u1 : us m 1 = m.ub := rfl
  have e0 : 1 - 1 = 0 := rfl
  have e1 : 1 - 0 = 1 := rfl
  unfold prS
  rw [goR, e0, u0, d0, if_neg (show ¬ (0 = 1 ∧ m.ua = true) by simp)]
  generalize dir0 c m pa fu fi mx my = r0
  cases ha : m.ua
  · rw [if_neg (by simp), if_neg (by simp), goR, e1, u1, u0, d1]
    have hbad : (dir1 c m pa fu fi mx my).2 ≠ 0 → (dir1 c m pa fu fi mx my).1 = f0 := dirP_bad
    generalize dir1 c m pa fu fi mx my = r1 at hbad ⊢
    rw [ha] at h
    have hb : m.ub = true := by simpa using h
    rw [hb, if_pos rfl, ha]
    obtain ⟨g, e⟩ := r1
    by_cases he : e = 0
    · subst he; simp [goR]
    · rw [if_pos (by exact he)]
      exact Prod.ext (hbad he).symm rfl
  · rw [if_pos rfl, if_pos rfl]
    by_cases he : r0.2 = 0
    · rw [if_neg (by simp [he]), if_neg (by simp [he]), goR, e1, u1, u0, d1]
      generalize dir1 c m pa fu fi mx my = r1
      cases hb : m.ub
      · rw [if_neg (by simp), if_neg (by simp)]
        obtain ⟨g, e⟩ := r0
        simp only at he
        subst he; rfl
      · rw [if_pos rfl, if_pos rfl]
        by_cases he1 : r1.2 = 0
        · simp [goR, he1, ha]
        · rw [if_pos he1, if_pos he1]
    · rw [if_pos he, if_pos he]
theorem fm_intra {c : Cx} {m : Mb} (h : fmS c m = true) (hk : m.k = 1) : m.ua = false ∧ m.ub = false := by
  unfold fmS at h
  rw [Bool.and_eq_true, if_neg (by omega), if_pos hk] at h
  have hz := h.2
  rw [Bool.and_eq_true] at hz
  have h2 := hz.1
  unfold zI at h2
  simp only [Bool.and_eq_true, beq_iff_eq] at h2
  exact ⟨h2.1.1, h2.1.2.1⟩
theorem zmb_flags {m : Mb} (h : zmb m = true) : ∀ n, flagAt (cdl m) n = false := fun n => by
  unfold zmb zA at h
  obtain ⟨k, ua, ub, fp, fd, va, vb, vc, vd, ve, vf, vg, vh, sa, sb, sc, sd, dl, ca, cb, cc, cd, ce, cf, lv⟩ := m
  simp only [Bool.and_eq_true, beq_iff_eq] at h
  have : ca = false ∧ cb = false ∧ cc = false ∧ cd = false ∧ ce = false ∧ cf = false := by simp_all
  obtain ⟨rfl, rfl, rfl, rfl, rfl, rfl⟩ := this
  have : n = 0 ∨ n = 1 ∨ n = 2 ∨ n = 3 ∨ n = 4 ∨ n = 5 ∨ 6 ≤ n := by omega
  rcases this with rfl | rfl | rfl | rfl | rfl | rfl | h
  all_goals first | rfl | (simp [flagAt, cdl, List.getD_eq_getElem?_getD, List.getElem?_eq_none]; done) | skip
  simp only [flagAt, cdl, List.getD_eq_getElem?_getD]
  rw [List.getElem?_eq_none (by simp; omega)]; rfl
/-- The end: the blocks that are coded. -/
def recE (m : Mb) (al : Bool) (mat : List UInt8) (q : Int) (x : Fm × Int) : Fm × Int := if x.2 ≠ 0 then (f0, x.2) else (addN m al mat q x.1 6, 0)
theorem recE_ok (m : Mb) (al : Bool) (mat : List UInt8) (q : Int) (f : Fm) : recE m al mat q (f, 0) = (addN m al mat q f 6, 0) := if_neg (by simp)
theorem recE_er (m : Mb) (al : Bool) (mat : List UInt8) (q : Int) (f : Fm) {e : Int} (h : e ≠ 0) : recE m al mat q (f, e) = (f0, e) := if_pos h
/-- The program's answer, as the reference forms it. -/
theorem recS_go (c : Cx) (si sq : List UInt8) (al : Bool) (q : Int) (m : Mb) (pa fu fi : Fm) (mx my : Int) (h : (fmS c m && (mxOk si && (mxOk sq && qnB q))) = true) :
    recS c si sq al q m pa fu fi mx my = recE m al (if m.k = 1 then si else sq) q (goR c (mbP c m) pa fu fi mx my 2 gry) := by
  unfold recS recE
  rw [if_pos h]
  have hf : fmS c m = true := by rw [Bool.and_eq_true] at h; exact h.1
  by_cases hk : m.k = 1
  · have hm : mbP c m = m := if_neg (by omega)
    obtain ⟨a1, a2⟩ := fm_intra hf hk
    rw [if_pos hk, if_pos hk, hm, goR_none _ _ _ _ _ _ _ a1 a2, if_neg (by simp)]
  · rw [if_neg hk, if_neg hk]
    have hu : (mbP c m).ua = true ∨ (mbP c m).ub = true := by
      unfold mbP
      split
      · exact .inl rfl
      · exact (fm_two hf (by rcases fm_k hf with h | h | h <;> omega)).1.u
    rw [goR_prS _ _ _ _ _ _ _ hu]
    change (if (prS c (mbP c m) pa fu fi mx my).2 ≠ 0 then (f0, (prS c (mbP c m) pa fu fi mx my).2) else (addN (mbP c m) al sq q (prS c (mbP c m) pa fu fi mx my).1 6, 0)) = _
    by_cases h0 : m.k = 0
    · have hz : zmb m = true := by
        unfold fmS at hf
        rw [Bool.and_eq_true, if_pos h0, Bool.and_eq_true] at hf
        exact hf.2.2
      rw [addN_none (zmb_flags hz)]
      have hm : mbP c m = stl c := if_pos h0
      rw [hm, addN_none (stl_flags c)]
    · have hm : mbP c m = m := if_neg h0
      rw [hm]
theorem zlv_rg {lv : List Int} (hl : lv.length = 384) (h : zlv lv = true) : lrm lv := fun i => by
  unfold zlv at h
  simp only [Bool.and_eq_true, Bool.and_true] at h
  obtain ⟨h0, h1, h2, h3, h4, h5⟩ := h
  have key : ∀ n j : Nat, j < 64 → zbk lv n = true → intAt lv (n * 64 + j) = 0 := fun n j hj hz => by
    unfold zbk at hz
    have e := beq_iff_eq.1 hz
    have := congrArg (fun l => l[j]?) e
    simp only [List.getElem?_take, if_pos hj, List.getElem?_drop, List.getElem?_replicate] at this
    unfold intAt
    rw [List.getD_eq_getElem?_getD, this]; rfl
  by_cases hi : i < 384
  · have e : i = i / 64 * 64 + i % 64 := by omega
    have z : intAt lv i = 0 := by
      rw [e]
      have : i / 64 = 0 ∨ i / 64 = 1 ∨ i / 64 = 2 ∨ i / 64 = 3 ∨ i / 64 = 4 ∨ i / 64 = 5 := by omega
      rcases this with q | q | q | q | q | q <;> rw [q] <;> exact key _ _ (by omega) (by assumption)
    omega
  · unfold intAt
    rw [List.getD_eq_getElem?_getD, List.getElem?_eq_none (by omega)]
    simp
theorem lrm_fm {c : Cx} {m : Mb} (hml : m.lv.length = 384) (h : fmS c m = true) : lrm m.lv := by
  rcases fm_k h with h0 | h1 | h2
  · have hz : zmb m = true := by
      unfold fmS at h
      rw [Bool.and_eq_true, if_pos h0, Bool.and_eq_true] at h
      exact h.2.2
    unfold zmb at hz
    rw [Bool.and_eq_true, Bool.and_eq_true] at hz
    have := hz.2.1
    exact zlv_rg hml this
  · exact lrm_of hml (fm_one h h1)
  · exact lrm_of hml (fm_two h h2).2.2

def rxH (H : Heap) (c : Cx) (s : Sq) (m : Mb) (pa fu fi : Fm) (a b : Bool) (mat : List UInt8) (out : Fm) : Heap := H ++ [⟨33, 0, cxc c⟩, ⟨38, 0, sqc s⟩, ⟨50, 0, mbc m⟩, ⟨55, 0, fmc pa ++ (fmc fu ++ fmc fi)⟩, ⟨53, 0, [.int .i64 0, .int .i64 0, .slice [] 0 true, .slice [] 0 true, .slice [] 0 true]⟩, ⟨39, 1, [.bool a, .bool b]⟩, ⟨36, 1, bs mat⟩, ⟨53, 0, fmc out⟩]
theorem fmc_sc (f : Fm) (n : Nat) : ∀ x ∈ fmc f, Scoped n x := fr_sc _ _ _ _ _ _ _ _ _ _ _ _
theorem hsc_rxH (H : Heap) (c : Cx) (s : Sq) (m : Mb) (pa fu fi : Fm) (a b : Bool) (mat : List UInt8) (out : Fm) (h : HSc H) : HSc (rxH H c s m pa fu fi a b mat out) := hscW (fun k hb x hx => by
  simp only [List.mem_cons, List.not_mem_nil, or_false] at hb
  rcases hb with rfl | rfl | rfl | rfl | rfl | rfl | rfl | rfl
  · unfold cxc at hx
    simp only [List.mem_cons, List.not_mem_nil, or_false] at hx
    rcases hx with rfl | rfl | rfl | rfl <;> first | exact .int _ _ | exact .bool _
  · exact sqc_scoped _ _ x hx
  · exact mbc_scA _ _ x hx
  · rcases List.mem_append.1 hx with hx | hx
    · exact fmc_sc _ _ x hx
    · rcases List.mem_append.1 hx with hx | hx
      · exact fmc_sc _ _ x hx
      · exact fmc_sc _ _ x hx
  · exact fr_sc _ 0 0 [] [] [] _ _ _ _ _ _ x hx
  · simp only [List.mem_cons, List.not_mem_nil, or_false] at hx
    rcases hx with rfl | rfl <;> exact .bool _
  · exact bs_scoped _ _ x hx
  · exact fmc_sc _ _ x hx) h
set_option maxHeartbeats 8000000 in
set_option maxRecDepth 100000 in
theorem recon_ref (c : Cx) (s : Sq) (al : Bool) (q : Int) (m : Mb) (pa fu fi : Fm) (mx my : Int) (H : Heap) (hml : m.lv.length = 384) (hia : s.ia.length = 64) (hie : s.ie.length = 64) :
    CallOk Tryz.prog 15 [.agg (cxc c), .agg (sqc s), .bool al, .int .i64 q, .agg (mbc m), .agg (fmc pa ++ (fmc fu ++ fmc fi)), .int .i64 mx, .int .i64 my] H (.tup [.agg (fmc (recS c s.ia s.ie al q m pa fu fi mx my).1), .int .i64 (recS c s.ia s.ie al q m pa fu fi mx my).2]) H := by
  have fo := fun L => fm_ref c m L hml
  have q1 := fun L => mx_ref s.ia L hia
  have q2 := fun L => mx_ref s.ie L hie
  have c1 := sqc_ia s hia
  have c2 := sqc_ie s hia hie
  have c3 := sqj_len s hia hie
  have c4 := sqj_cell s
  have m1 := mbc_lenA m hml
  have m2 := mbc_cellA m
  have m3 : (mbc m)[0]? = some (.int .i64 m.k) := rfl
  have m4 : List.take 408 (mbc m) = mbc m := List.take_of_length_le (by omega)
  have m6 : List.take 2 (List.drop 1 (mbc m)) = [.bool m.ua, .bool m.ub] := rfl
  have m7 := mbc_fdA m
  have m8 := fun n => mbc_lvl m n
  have m9 : ∀ n, n < 6 → (mbc m)[18 + n]? = some (.bool (flagAt (cdl m) n)) := fun n hn => by
    have : n = 0 ∨ n = 1 ∨ n = 2 ∨ n = 3 ∨ n = 4 ∨ n = 5 := by omega
    rcases this with rfl | rfl | rfl | rfl | rfl | rfl <;> rfl
  have cl : (cxc c).length = 4 := rfl
  have cc : (cxc c).all PV.cell = true := rfl
  have ct4 : List.take 4 (cxc c) = cxc c := rfl
  have cx0 : (cxc c)[0]? = some (.int .i64 c.t) := rfl
  have rl : (fmc pa ++ (fmc fu ++ fmc fi)).length = 15 := rfl
  have rc : (fmc pa ++ (fmc fu ++ fmc fi)).all PV.cell = true := rfl
  have rt : List.take 15 (fmc pa ++ (fmc fu ++ fmc fi)) = fmc pa ++ (fmc fu ++ fmc fi) := rfl
  have z9 : List.drop 5 [PV.int .i64 0, PV.int .i64 0, PV.slice [] 0 true, PV.slice [] 0 true, PV.slice [] 0 true] = [] := rfl
  have F5 : ∀ g : Fm, (fmc g).all PV.cell = true := fun _ => rfl
  have F7 : ∀ g : Fm, (fmc g).length = 5 := fun _ => rfl
  have F8 : ∀ g : Fm, List.take 5 (fmc g) = fmc g := fun _ => rfl
  have F9 : ∀ g : Fm, List.drop 5 (fmc g) = [] := fun _ => rfl
  have la : (bs s.ia).length = 64 := by rw [length_bs, hia]
  have le : (bs s.ie).length = 64 := by rw [length_bs, hie]
  have lca : (bs s.ia).all PV.cell = true := by simp [bs, PV.cell]
  have lce : (bs s.ie).all PV.cell = true := by simp [bs, PV.cell]
  have dle : List.drop 64 (bs s.ie) = [] := List.drop_of_length_le (by omega)
  generalize hr : recS c s.ia s.ie al q m pa fu fi mx my = r
  refine CallOk.body (F0 := [(0, .agg (cxc c)), (1, .agg (sqc s)), (2, .bool al), (3, .int .i64 q), (4, .agg (mbc m)), (5, .agg (fmc pa ++ (fmc fu ++ fmc fi))), (6, .int .i64 mx), (7, .int .i64 my)]) Tryz.func15 rfl Tryz.ntmps15 Tryz.results15 rfl (by kernel_rfl) rfl ?_
  (repeat refine PW.seq ?_); refine PW.rg rfl fun K hK => ?_; simp (maxSteps := 3000000) (disch := omega) only [go_sem, ↓reduceIte, reduceCtorEq, pappend, plen, cc, rc, c4, m2]; refine hK _ _ ?_; clear hK K
  (repeat refine PW.seq ?_)
  refine PW.rgv (P := Tryz.prog) [2, 3, 6, 7, 8, 9, 12, 13, 16, 17] 54 (.bool (!(fmS c m && (mxOk s.ia && (mxOk s.ie && qnB q))))) ?_ ?_ ?_
  · rfl
  · clear hr
    generalize fmS c m = b1 at fo ⊢
    generalize mxOk s.ia = b2 at q1 ⊢
    generalize mxOk s.ie = b3 at q2 ⊢
    unfold qnB
    simp (maxSteps := 3000000) (disch := omega) only [go_sem, ↓reduceIte, reduceCtorEq, pappend, plen, cl, ct4, m1, m4, c1, c2, c3]; (repeat' (first | ((first | refine VO_cond ?_ ?_ | refine VOd_cond ?_ ?_ | refine VOg_cond ?_ ?_ | refine VOh_cond ?_ ?_ | refine VOi_cond ?_ ?_ | refine And.intro ?_ ?_) <;> intro h <;> (try simp only [Bool.not_eq_true', Bool.not_eq_false', decide_eq_true_eq, decide_eq_false_iff_not] at h) <;> simp (maxSteps := 3000000) (disch := omega) only [go_sem, ↓reduceIte, reduceCtorEq, pappend, plen, cl, ct4, m1, m4, c1, c2, c3, h]) | ((first | refine VCx.call (fo _) rfl ?_ | refine VCx.call (q1 _) rfl ?_ | refine VCx.call (q2 _) rfl ?_ | refine VCy.call (fo _) rfl ?_ | refine VCy.call (q1 _) rfl ?_ | refine VCy.call (q2 _) rfl ?_ | refine VCz.call (fun _ => fo _) rfl ?_ | refine VCz.call (fun _ => q1 _) rfl ?_ | refine VCz.call (fun _ => q2 _) rfl ?_ | refine VCk.call (fun _ _ => fo _) rfl ?_ | refine VCk.call (fun _ _ => q1 _) rfl ?_ | refine VCk.call (fun _ _ => q2 _) rfl ?_ | refine VCj.now (fo _) rfl ?_ | refine VCj.now (q1 _) rfl ?_ | refine VCj.now (q2 _) rfl ?_); simp (maxSteps := 3000000) (disch := omega) only [go_sem, ↓reduceIte, reduceCtorEq, pappend, plen, cl, ct4, m1, m4, c1, c2, c3])))
    all_goals (clear fo q1 q2; (simp_all [slot, Nat.beq] <;> first | rfl | omega | (rw [Bool.eq_iff_iff]; simp; done) | (rw [Bool.eq_iff_iff]; simp; omega)))
  (repeat refine PW.seq ?_); refine PW.cond (t := _) rfl (fun h => ?_) (fun h => ?_)
  · have hb : (fmS c m && (mxOk s.ia && (mxOk s.ie && qnB q))) = false := by
      cases hx : (fmS c m && (mxOk s.ia && (mxOk s.ie && qnB q))) with
      | false => rfl
      | true => rw [hx] at h; cases h
    unfold recS at hr
    rw [hb, if_neg (by simp)] at hr
    (repeat refine PW.seq ?_); refine PW.rg rfl fun K hK => ?_; simp (maxSteps := 3000000) (disch := omega) only [go_sem, ↓reduceIte, reduceCtorEq, pappend, plen]; refine hK _ _ ?_; clear hK K
    refine PW.ret ⟨.tup [.agg [.int .i64 0, .int .i64 0, .slice [] 0 true, .slice [] 0 true, .slice [] 0 true], .int .i64 1], by simp (maxSteps := 3000000) (disch := omega) only [go_sem, ↓reduceIte, reduceCtorEq, pappend, plen, presults, presult, List.mapM_cons, List.mapM_nil, Option.pure_def, Option.bind_eq_bind, Option.bind_some, Array.toList], ?_⟩
    rw [← hr]
    exact Fin.base (fz0 _ _ _)
  have hb : (fmS c m && (mxOk s.ia && (mxOk s.ie && qnB q))) = true := by simpa using h
  rw [recS_go _ _ _ _ _ _ _ _ _ _ _ hb] at hr
  simp only [Bool.and_eq_true] at hb
  obtain ⟨hf, hb1, hb2, hb3⟩ := hb
  have hlr := lrm_fm hml hf
  have hub : us (mbP c m) 0 = (if m.k = 0 then true else m.ua) ∧ us (mbP c m) 1 = (if m.k = 0 then decide (c.t = 3) else m.ub) := by
    unfold mbP
    split <;> exact ⟨rfl, rfl⟩
  have hpd := fun (d : Nat) (hd : d < 2) (hu : us (mbP c m) d = true) (hk1 : m.k ≠ 1) L => predicted_ref c m pa fu fi d hd mx my hml hf hu hk1 L
  have hk1 : m.k = 1 → us (mbP c m) 0 = false ∧ us (mbP c m) 1 = false := fun hk => by
    obtain ⟨a1, a2⟩ := fm_intra hf hk
    rw [hub.1, hub.2, if_neg (by omega), if_neg (by omega)]
    exact ⟨a1, a2⟩
  have h16 : ∀ d, (dirD c (mbP c m) pa fu fi d mx my).2 = 0 → F16 (dirD c (mbP c m) pa fu fi d mx my).1 := fun d h => dirP_16 h
  obtain ⟨M, hM⟩ : ∃ M, mbP c m = M := ⟨_, rfl⟩
  rw [hM] at hr hub hpd hk1 h16
  obtain ⟨mat, hmat⟩ : ∃ mat, (if m.k = 1 then s.ia else s.ie) = mat := ⟨_, rfl⟩
  have hml2 : mat.length = 64 := by rw [← hmat]; split <;> assumption
  have hmx : mxOk mat = true := by rw [← hmat]; split <;> assumption
  rw [hmat] at hr
  have lm : (bs mat).length = 64 := by rw [length_bs, hml2]
  have tkm : List.take 64 (bs mat) = bs mat := List.take_of_length_le (by omega)
  refine PW.skip ?_
  refine PW.view (Vs.place 39) ?_
  refine PW.view (Vs.place 36) ?_
  (repeat refine PW.seq ?_); refine PW.drawi [H.length + 5, H.length + 6] [(18, [0]), (19, [1])] [(18, 0), (19, 1)] [] mix (by kernel_rfl) (by simp <;> omega) fun K hK => ?_
  simp (maxSteps := 3000000) (disch := omega) only [go_sem, ↓reduceIte, reduceCtorEq, pappend, plen, arith, m1, m6, c2, c3, le, lce]
  refine hK _ _ ?_; clear hK K
  suffices hA : PW Tryz.prog _ _ [(2, .bool al), (3, .int .i64 q), (6, .int .i64 mx), (7, .int .i64 my), (8, .ptr H.length 0 0), (9, .ptr (H.length + 1) 0 0), (12, .ptr (H.length + 2) 0 0), (13, .ptr (H.length + 3) 0 0), (16, .ptr (H.length + 4) 0 0), (18, .ptr (H.length + 5) 1 0), (19, .ptr (H.length + 6) 1 0)] (H ++ [⟨33, 0, cxc c⟩, ⟨38, 0, sqc s⟩, ⟨50, 0, mbc m⟩, ⟨55, 0, fmc pa ++ (fmc fu ++ fmc fi)⟩, ⟨53, 0, [.int .i64 0, .int .i64 0, .slice [] 0 true, .slice [] 0 true, .slice [] 0 true]⟩, ⟨39, 1, [.bool (us M 0), .bool (us M 1)]⟩, ⟨36, 1, bs s.ie⟩]) _ by
    (repeat refine PW.seq ?_); refine PW.rg rfl fun K hK => ?_; simp (maxSteps := 3000000) (disch := omega) only [go_sem, ↓reduceIte, reduceCtorEq, pappend, plen, m1, m3]; refine hK _ _ ?_; clear hK K
    (repeat refine PW.seq ?_); refine PW.cond (t := _) rfl (fun h => ?_) (fun h => ?_)
    · have hz : m.k = 0 := by simpa using h
      rw [if_pos hz, if_pos hz] at hub
      rw [hub.1, hub.2] at hA
      (repeat refine PW.seq ?_); refine PW.rg rfl fun K hK => ?_; simp (maxSteps := 3000000) (disch := omega) only [go_sem, ↓reduceIte, reduceCtorEq, pappend, plen, cl, cx0]; refine hK _ _ ?_; clear hK K
      exact PW.at [2, 3, 6, 7, 8, 9, 12, 13, 16, 18, 19] hA rfl rfl
    · have hz : m.k ≠ 0 := by simpa using h
      rw [if_neg hz, if_neg hz] at hub
      rw [hub.1, hub.2] at hA
      refine PW.skip ?_
      exact PW.at [2, 3, 6, 7, 8, 9, 12, 13, 16, 18, 19] hA rfl rfl
  have fl := fun L => flat_ref L
  have g16 : F16 gry := F16.gry
  generalize gry = g0 at fl hr g16
  (repeat refine PW.seq ?_); refine PW.rg rfl fun K hK => ?_; simp (maxSteps := 3000000) (disch := omega) only [go_sem, ↓reduceIte, reduceCtorEq, pappend, plen, F5, F7]; refine VCx.call (fl _) rfl ?_; simp (maxSteps := 3000000) (disch := omega) only [go_sem, ↓reduceIte, reduceCtorEq, pappend, plen, F5, F7]; refine hK _ _ ?_; clear hK K
  suffices hB : PW Tryz.prog _ _ [(2, .bool al), (3, .int .i64 q), (6, .int .i64 mx), (7, .int .i64 my), (8, .ptr H.length 0 0), (12, .ptr (H.length + 2) 0 0), (13, .ptr (H.length + 3) 0 0), (16, .ptr (H.length + 4) 0 0), (18, .ptr (H.length + 5) 1 0), (19, .ptr (H.length + 6) 1 0), (20, .ptr (H.length + 7) 0 0)] (rxH H c s m pa fu fi (us M 0) (us M 1) mat g0) _ by
    (repeat refine PW.seq ?_); refine PW.rg rfl fun K hK => ?_; simp (maxSteps := 3000000) (disch := omega) only [go_sem, ↓reduceIte, reduceCtorEq, pappend, plen, m1, m3]; refine hK _ _ ?_; clear hK K
    (repeat refine PW.seq ?_); refine PW.cond (t := _) rfl (fun h => ?_) (fun h => ?_)
    · have hz : m.k = 1 := by simpa using h
      rw [if_pos hz] at hmat
      subst hmat
      (repeat refine PW.seq ?_); refine PW.rg rfl fun K hK => ?_; simp (maxSteps := 3000000) (disch := omega) only [go_sem, ↓reduceIte, reduceCtorEq, pappend, plen, c1, c3, lca, la, le, dle]; refine hK _ _ ?_; clear hK K
      exact PW.at [2, 3, 6, 7, 8, 12, 13, 16, 18, 19, 20] hB rfl (by unfold rxH; simp)
    · have hz : m.k ≠ 1 := by simpa using h
      rw [if_neg hz] at hmat
      subst hmat
      refine PW.skip ?_
      exact PW.at [2, 3, 6, 7, 8, 12, 13, 16, 18, 19, 20] hB rfl rfl
  clear fo q1 q2
  (repeat refine PW.seq ?_); refine PW.rg rfl fun K hK => ?_; simp (maxSteps := 3000000) (disch := omega) only [go_sem, ↓reduceIte, reduceCtorEq, pappend, plen]; refine hK _ _ ?_; clear hK K
  (repeat refine PW.seq ?_); refine PW.block (PW.loop ?_)
  suffices hloop : ∀ (n d : Nat) (out : Fm), d + n = 2 → F16 out → (d = 1 → us M 0 = false ∨ F16 out) → recE m al mat q (goR c M pa fu fi mx my n out) = r → PL Tryz.prog _ _ [(2, .bool al), (3, .int .i64 q), (6, .int .i64 mx), (7, .int .i64 my), (8, .ptr H.length 0 0), (12, .ptr (H.length + 2) 0 0), (13, .ptr (H.length + 3) 0 0), (16, .ptr (H.length + 4) 0 0), (18, .ptr (H.length + 5) 1 0), (19, .ptr (H.length + 6) 1 0), (20, .ptr (H.length + 7) 0 0), (21, .int .i64 (d : Int))] (rxH H c s m pa fu fi (us M 0) (us M 1) mat out) _ by
    exact PL.at [2, 3, 6, 7, 8, 12, 13, 16, 18, 19, 20, 21] (hloop 2 0 g0 rfl g16 (fun h => by cases h) hr) rfl rfl
  clear hr
  intro n
  induction n with
  | zero =>
    intro d out hd ho _ hr
    have hd2 : d = 2 := by omega
    subst hd2
    rw [goR, recE_ok] at hr
    refine PL.round ?_; (repeat refine PW.seq ?_); refine PW.rg rfl fun K hK => ?_; simp (maxSteps := 3000000) (disch := omega) only [go_sem, ↓reduceIte, reduceCtorEq, pappend, plen]; refine hK _ _ ?_; clear hK K; (repeat refine PW.seq ?_); refine PW.cond (t := _) rfl (fun h => ?_) (fun h => ?_)
    · cases h
    refine PW.exit ?_
    (repeat refine PW.seq ?_); refine PW.rg rfl fun K hK => ?_; simp (maxSteps := 3000000) (disch := omega) only [go_sem, ↓reduceIte, reduceCtorEq, pappend, plen]; refine hK _ _ ?_; clear hK K
    (repeat refine PW.seq ?_); refine PW.block (PW.loop ?_)
    suffices h1 : ∀ n : Nat, n ≤ 6 → PL Tryz.prog _ _ [(2, .bool al), (3, .int .i64 q), (12, .ptr (H.length + 2) 0 0), (16, .ptr (H.length + 4) 0 0), (19, .ptr (H.length + 6) 1 0), (20, .ptr (H.length + 7) 0 0), (24, .int .i64 (n : Int))] (rxH H c s m pa fu fi (us M 0) (us M 1) mat (addN m al mat q out n)) _ by
      exact PL.at [2, 3, 12, 16, 19, 20, 24] (h1 0 (by omega)) rfl rfl
    refine cnt 6 (fun n hn ih => ?_) ?_
    · have ct := lt_t hn
      have m9n := m9 n hn
      refine PL.round ?_; (repeat refine PW.seq ?_); refine PW.rg rfl fun K hK => ?_; simp (maxSteps := 3000000) (disch := omega) only [go_sem, ↓reduceIte, reduceCtorEq, pappend, plen]; refine hK _ _ ?_; clear hK K; (repeat refine PW.seq ?_); refine PW.cond (t := _) rfl (fun h => ?_) (fun h => ?_)
      rotate_left
      · cases h
      refine PW.skip ?_; (repeat refine PW.seq ?_); refine PW.block ?_
      (repeat refine PW.seq ?_); refine PW.rg rfl fun K hK => ?_; simp (maxSteps := 3000000) (disch := omega) only [go_sem, ↓reduceIte, reduceCtorEq, pappend, plen, rxH, m1, m9n]; refine hK _ _ ?_; clear hK K
      (repeat refine PW.seq ?_); refine PW.cond (t := _) rfl (fun h => ?_) (fun h => ?_)
      · have hc : flagAt (cdl m) n = false := by simpa using h
        rw [addN, hc, if_neg (by simp)] at ih
        refine PW.exit ?_
        (repeat refine PW.seq ?_); refine PW.rg rfl fun K hK => ?_; simp (maxSteps := 3000000) (disch := omega) only [go_sem, ↓reduceIte, reduceCtorEq, pappend, plen]; refine hK _ _ ?_; clear hK K
        exact PL.at [2, 3, 12, 16, 19, 20, 24] ih rfl rfl
      have hc : flagAt (cdl m) n = true := by simpa using h
      rw [addN, hc, if_pos rfl] at ih
      have g16 := ho.addN m al mat q n (by omega)
      obtain ⟨g, hgg⟩ : ∃ g, addN m al mat q out n = g := ⟨_, rfl⟩
      rw [hgg] at g16 ih ⊢
      have ll := lvl_len m.lv n hml hn
      have lr := lvl_rg hlr n
      have c1 := fun K => fromScan_ref (lvl m.lv n) al ll K
      have c2 := fun K => dequant_ref (frs (lvl m.lv n) al) mat q (frs_len _ _) (frs_rg lr al) hml2 hmx hb3 K
      have hrs : rsd m.lv al mat q n = inv (dqz (frs (lvl m.lv n) al) mat q) := rfl
      have c3 := fun K => inverse_ref (dqz (frs (lvl m.lv n) al) mat q) (dqz_len _ _ _) K
      rw [← hrs] at c3
      have il : (rsd m.lv al mat q n).length = 64 := inv_len _
      have ib := fun k => inv_bd (dqz (frs (lvl m.lv n) al) mat q) k
      rw [← hrs] at ib
      have dl := dqz_len (frs (lvl m.lv n) al) mat q
      have dcel := is_cell (dqz (frs (lvl m.lv n) al) mat q)
      generalize dqz (frs (lvl m.lv n) al) mat q = D at c2 c3 dl dcel
      have tkD : List.take 64 (is D) = is D := List.take_of_length_le (by rw [is_len]; omega)
      generalize frs (lvl m.lv n) al = S at c1 c2
      generalize rsd m.lv al mat q n = I at c3 il ib ih
      clear hrs
      have icel := is_cell I
      have c4 := fun K => block_ref g g16 n hn m.fd K
      have bb := fun k => blk_bd (cmp g n) n m.fd k
      have bl : (blk (cmp g n) n m.fd).length = 64 := rgI_len _ _
      have bcel := is_cell (blk (cmp g n) n m.fd)
      refine PW.skip ?_
      refine PW.view (Vs.place 47) ?_
      (repeat refine PW.seq ?_); refine PW.drawi [H.length + 8] [(25, [0])] [(25, 0)] [123, 126] mix (by kernel_rfl) (by simp <;> omega) fun K hK => ?_
      simp (maxSteps := 3000000) (disch := omega) only [go_sem, ↓reduceIte, reduceCtorEq, pappend, plen, arith, m8, m1]
      refine VCj.read (fun _ _ => c1 _) rfl ?_
      simp (maxSteps := 3000000) (disch := omega) only [go_sem, ↓reduceIte, reduceCtorEq, pappend, plen, arith, m8, m1, lm, tkm]
      refine VCj.read (fun _ _ => c2 _) rfl ?_
      simp (maxSteps := 3000000) (disch := omega) only [go_sem, ↓reduceIte, reduceCtorEq, pappend, plen, is_len, dl, dcel]
      refine hK _ _ ?_; clear hK K
      (repeat refine PW.seq ?_); refine PW.rg rfl fun K hK => ?_; simp (maxSteps := 3000000) (disch := omega) only [go_sem, ↓reduceIte, reduceCtorEq, pappend, plen, is_len, dl, tkD, il, icel]; refine VCx.call (c3 _) rfl ?_; simp (maxSteps := 3000000) (disch := omega) only [go_sem, ↓reduceIte, reduceCtorEq, pappend, plen, is_len, dl, tkD, il, icel]; refine hK _ _ ?_; clear hK K
      (repeat refine PW.seq ?_); refine PW.rg rfl fun K hK => ?_; simp (maxSteps := 3000000) (disch := omega) only [go_sem, ↓reduceIte, reduceCtorEq, pappend, plen, m7, m1, F7, F8, is_len, bl, bcel]; refine VCx.call (c4 _) rfl ?_; simp (maxSteps := 3000000) (disch := omega) only [go_sem, ↓reduceIte, reduceCtorEq, pappend, plen, m7, m1, F7, F8, is_len, bl, bcel]; refine hK _ _ ?_; clear hK K
      (repeat refine PW.seq ?_); refine PW.rg rfl fun K hK => ?_; simp (maxSteps := 3000000) (disch := omega) only [go_sem, ↓reduceIte, reduceCtorEq, pappend, plen]; refine hK _ _ ?_; clear hK K
      (repeat refine PW.seq ?_); refine PW.block (PW.loop ?_)
      suffices h2 : ∀ k : Nat, k ≤ 64 → PL Tryz.prog _ _ [(2, .bool al), (3, .int .i64 q), (12, .ptr (H.length + 2) 0 0), (16, .ptr (H.length + 4) 0 0), (19, .ptr (H.length + 6) 1 0), (20, .ptr (H.length + 7) 0 0), (24, .int .i64 (n : Int)), (27, .ptr (H.length + 9) 0 0), (28, .ptr (H.length + 10) 0 0), (30, .int .i64 (k : Int))] (rxH H c s m pa fu fi (us M 0) (us M 1) mat g ++ [⟨47, 1, is D⟩, ⟨47, 0, is (adk (blk (cmp g n) n m.fd) I k)⟩, ⟨47, 0, is (blk (cmp g n) n m.fd)⟩]) _ by
        exact PL.at [2, 3, 12, 16, 19, 20, 24, 27, 28, 30] (h2 0 (by omega)) rfl (by rw [adk_0 il]; unfold rxH; simp)
      refine cnt 64 (fun k hk ih2 => ?_) ?_
      · refine PL.round ?_; (repeat refine PW.seq ?_); refine PW.rg rfl fun K hK => ?_; simp (maxSteps := 3000000) (disch := omega) only [go_sem, ↓reduceIte, reduceCtorEq, pappend, plen]; refine hK _ _ ?_; clear hK K; (repeat refine PW.seq ?_); refine PW.cond (t := _) rfl (fun h => ?_) (fun h => ?_)
        rotate_left
        · cases h
        have b1 := bb k
        have b2 := ib k
        have a1 := adk_at (blk (cmp g n) n m.fd) I hk
        have a2 := adk_set (blk (cmp g n) n m.fd) I k
        have a3 := adk_len (blk (cmp g n) n m.fd) I k
        have a4 : ∀ v, ((is (adk (blk (cmp g n) n m.fd) I k)).set k v).length = 64 := fun v => by simp [is_len, a3]
        refine PW.skip ?_; (repeat refine PW.seq ?_); refine PW.block ?_
        (repeat refine PW.seq ?_); refine PW.drawi [H.length + 9] [(27, [0]), (145, [0]), (151, [0])] [] [] mix (by kernel_rfl) (by simp <;> omega) fun K hK => ?_
        simp (maxSteps := 3000000) (disch := omega) only [go_sem, ↓reduceIte, reduceCtorEq, pappend, plen, arith, rxH, is_get, is_len, bl, a3, a1, is_set, a2, a4]
        refine hK _ _ ?_; clear hK K
        (repeat refine PW.seq ?_); refine PW.rg rfl fun K hK => ?_; simp (maxSteps := 3000000) (disch := omega) only [go_sem, ↓reduceIte, reduceCtorEq, pappend, plen]; refine hK _ _ ?_; clear hK K
        exact PL.at [2, 3, 12, 16, 19, 20, 24, 27, 28, 30] ih2 rfl (by unfold rxH; simp)
      refine PL.round ?_; (repeat refine PW.seq ?_); refine PW.rg rfl fun K hK => ?_; simp (maxSteps := 3000000) (disch := omega) only [go_sem, ↓reduceIte, reduceCtorEq, pappend, plen]; refine hK _ _ ?_; clear hK K; (repeat refine PW.seq ?_); refine PW.cond (t := _) rfl (fun h => ?_) (fun h => ?_)
      · cases h
      refine PW.exit ?_
      rw [adk_end]
      have xe : (rgI 64 fun k => intAt (blk (cmp g n) n m.fd) k + intAt I k) = rgI 64 fun k => intAt I k + intAt (blk (cmp g n) n m.fd) k := rgI_ext fun k _ => Int.add_comm _ _
      rw [xe]
      have xl : (rgI 64 fun k => intAt I k + intAt (blk (cmp g n) n m.fd) k).length = 64 := rgI_len _ _
      have c5 := fun K => setBlock_ref g g16 n hn m.fd (rgI 64 fun k => intAt I k + intAt (blk (cmp g n) n m.fd) k) xl K
      have e5 : stc' g n (setb (cmp g n) n m.fd (rgI 64 fun k => intAt I k + intAt (blk (cmp g n) n m.fd) k)) = addB g n m.fd I := rfl
      rw [e5] at c5
      generalize (rgI 64 fun k => intAt I k + intAt (blk (cmp g n) n m.fd) k) = X at xl c5
      have xt : List.take 64 (is X) = is X := List.take_of_length_le (by rw [is_len]; omega)
      generalize addB g n m.fd I = g' at c5 ih
      (repeat refine PW.seq ?_); refine PW.rg rfl fun K hK => ?_; simp (maxSteps := 3000000) (disch := omega) only [go_sem, ↓reduceIte, reduceCtorEq, pappend, plen, rxH, m7, m1, F5, F7, F8, F9, is_len, xl, xt]; refine VCx.call (c5 _) rfl ?_; simp (maxSteps := 3000000) (disch := omega) only [go_sem, ↓reduceIte, reduceCtorEq, pappend, plen, rxH, m7, m1, F5, F7, F8, F9, is_len, xl, xt]; refine hK _ _ ?_; clear hK K
      (repeat refine PW.seq ?_); refine PW.rg rfl fun K hK => ?_; simp (maxSteps := 3000000) (disch := omega) only [go_sem, ↓reduceIte, reduceCtorEq, pappend, plen]; refine hK _ _ ?_; clear hK K
      refine PL.view (Vs.trim (F1 := [(2, .bool al), (3, .int .i64 q), (12, .ptr (H.length + 2) 0 0), (16, .ptr (H.length + 4) 0 0), (19, .ptr (H.length + 6) 1 0), (20, .ptr (H.length + 7) 0 0), (24, .int .i64 ((n + 1 : Nat) : Int))]) (H1 := rxH H c s m pa fu fi (us M 0) (us M 1) mat g') (hsc_rxH H c s m pa fu fi _ _ mat g') (by simp [rxH]) (List.append_assoc _ [_, _, _, _, _, _, _, _] [_, _, _]).symm ?_) ih
      have hl : (rxH H c s m pa fu fi (us M 0) (us M 1) mat g').length = H.length + 8 := by simp [rxH]
      rw [hl]
      exact ⟨.id (.bool _), .id (.int _ _), .id (.ptr (by omega)), .id (.ptr (by omega)), .id (.ptr (by omega)), .id (.ptr (by omega)), .id (.int _ _), trivial⟩
    refine PL.round ?_; (repeat refine PW.seq ?_); refine PW.rg rfl fun K hK => ?_; simp (maxSteps := 3000000) (disch := omega) only [go_sem, ↓reduceIte, reduceCtorEq, pappend, plen]; refine hK _ _ ?_; clear hK K; (repeat refine PW.seq ?_); refine PW.cond (t := _) rfl (fun h => ?_) (fun h => ?_)
    · cases h
    refine PW.exit ?_
    obtain ⟨g, hgg⟩ : ∃ g, addN m al mat q out 6 = g := ⟨_, rfl⟩
    rw [hgg] at hr ⊢
    (repeat refine PW.seq ?_); refine PW.rg rfl fun K hK => ?_; simp (maxSteps := 3000000) (disch := omega) only [go_sem, ↓reduceIte, reduceCtorEq, pappend, plen, rxH, F5, F7, F8, z9]; refine hK _ _ ?_; clear hK K
    refine PW.ret ⟨.tup [.agg (fmc g), .int .i64 0], by simp (maxSteps := 3000000) (disch := omega) only [go_sem, ↓reduceIte, reduceCtorEq, pappend, plen, presults, presult, List.mapM_cons, List.mapM_nil, Option.pure_def, Option.bind_eq_bind, Option.bind_some, Array.toList, F7, F8], ?_⟩
    rw [← hr]
    exact Fin.base (.id (fe_scoped _ _ _ _ _ _ _ _ _ _))
  | succ n ih =>
    intro d out hd ho hu0 hr
    have hd2 : d < 2 := by omega
    have hdn : 1 - n = d := by omega
    rw [goR, hdn] at hr
    have ct : decide ((d : Int) < 2) = true := decide_eq_true (by omega)
    have eus : [PV.bool (us M 0), PV.bool (us M 1)][d]? = some (.bool (us M d)) := by
      have : d = 0 ∨ d = 1 := by omega
      rcases this with rfl | rfl <;> rfl
    refine PL.round ?_; (repeat refine PW.seq ?_); refine PW.rg rfl fun K hK => ?_; simp (maxSteps := 3000000) (disch := omega) only [go_sem, ↓reduceIte, reduceCtorEq, pappend, plen, ct]; refine hK _ _ ?_; clear hK K; (repeat refine PW.seq ?_); refine PW.cond (t := _) rfl (fun h => ?_) (fun h => ?_)
    rotate_left
    · cases h
    refine PW.skip ?_; (repeat refine PW.seq ?_); refine PW.block ?_
    (repeat refine PW.seq ?_); refine PW.rg rfl fun K hK => ?_; simp (maxSteps := 3000000) (disch := omega) only [go_sem, ↓reduceIte, reduceCtorEq, pappend, plen, rxH, eus]; refine hK _ _ ?_; clear hK K
    (repeat refine PW.seq ?_); refine PW.cond (t := _) rfl (fun h => ?_) (fun h => ?_)
    · have hu : us M d = false := by simpa using h
      rw [hu, if_neg (by simp)] at hr
      refine PW.exit ?_
      (repeat refine PW.seq ?_); refine PW.rg rfl fun K hK => ?_; simp (maxSteps := 3000000) (disch := omega) only [go_sem, ↓reduceIte, reduceCtorEq, pappend, plen]; refine hK _ _ ?_; clear hK K
      exact PL.at [2, 3, 6, 7, 8, 12, 13, 16, 18, 19, 20, 21] (ih (d + 1) out (by omega) ho (fun _ => .inr ho) hr) rfl rfl
    have hu : us M d = true := by simpa using h
    rw [hu, if_pos rfl] at hr
    have hk : m.k ≠ 1 := fun hk => by
      obtain ⟨a, b⟩ := hk1 hk
      have : d = 0 ∨ d = 1 := by omega
      rcases this with rfl | rfl
      · rw [a] at hu; cases hu
      · rw [b] at hu; cases hu
    have pr := fun L => hpd d hd2 hu hk L
    have h16d := h16 d
    generalize dirD c M pa fu fi d mx my = T at pr hr h16d
    obtain ⟨g, e⟩ := T
    simp only at pr hr h16d
    refine PW.skip ?_
    (repeat refine PW.seq ?_); refine PW.rg rfl fun K hK => ?_; simp (maxSteps := 3000000) (disch := omega) only [go_sem, ↓reduceIte, reduceCtorEq, pappend, plen, cl, ct4, rl, rt, m1, m4, F5, F7]; refine VCx.call (pr _) rfl ?_; simp (maxSteps := 3000000) (disch := omega) only [go_sem, ↓reduceIte, reduceCtorEq, pappend, plen, cl, ct4, rl, rt, m1, m4, F5, F7]; refine hK _ _ ?_; clear hK K
    (repeat refine PW.seq ?_); refine PW.rg rfl fun K hK => ?_; simp (maxSteps := 3000000) (disch := omega) only [go_sem, ↓reduceIte, reduceCtorEq, pappend, plen]; refine hK _ _ ?_; clear hK K
    (repeat refine PW.seq ?_); refine PW.cond (t := _) rfl (fun h => ?_) (fun h => ?_)
    · have he : e ≠ 0 := by simpa using h
      rw [if_pos (by exact he), recE_er _ _ _ _ _ he] at hr
      (repeat refine PW.seq ?_); refine PW.rg rfl fun K hK => ?_; simp (maxSteps := 3000000) (disch := omega) only [go_sem, ↓reduceIte, reduceCtorEq, pappend, plen]; refine hK _ _ ?_; clear hK K
      refine PW.ret ⟨.tup [.agg [.int .i64 0, .int .i64 0, .slice [] 0 true, .slice [] 0 true, .slice [] 0 true], .int .i64 e], by simp (maxSteps := 3000000) (disch := omega) only [go_sem, ↓reduceIte, reduceCtorEq, pappend, plen, presults, presult, List.mapM_cons, List.mapM_nil, Option.pure_def, Option.bind_eq_bind, Option.bind_some, Array.toList], ?_⟩
      rw [← hr]
      exact Fin.base (fz0 _ _ _)
    have he : e = 0 := by simpa using h
    rw [if_neg (by simp [he])] at hr
    have hg := h16d he
    refine PW.skip ?_
    have fin : ∀ (g' : Fm) (K : Heap), F16 g' → recE m al mat q (goR c M pa fu fi mx my n g') = r → PL Tryz.prog _ _ [(2, .bool al), (3, .int .i64 q), (6, .int .i64 mx), (7, .int .i64 my), (8, .ptr H.length 0 0), (12, .ptr (H.length + 2) 0 0), (13, .ptr (H.length + 3) 0 0), (16, .ptr (H.length + 4) 0 0), (18, .ptr (H.length + 5) 1 0), (19, .ptr (H.length + 6) 1 0), (20, .ptr (H.length + 7) 0 0), (21, .int .i64 ((d + 1 : Nat) : Int))] (rxH H c s m pa fu fi (us M 0) (us M 1) mat g' ++ K) _ := fun g' K hg' hr' => by
      refine PL.view (Vs.trim (F1 := [(2, .bool al), (3, .int .i64 q), (6, .int .i64 mx), (7, .int .i64 my), (8, .ptr H.length 0 0), (12, .ptr (H.length + 2) 0 0), (13, .ptr (H.length + 3) 0 0), (16, .ptr (H.length + 4) 0 0), (18, .ptr (H.length + 5) 1 0), (19, .ptr (H.length + 6) 1 0), (20, .ptr (H.length + 7) 0 0), (21, .int .i64 ((d + 1 : Nat) : Int))]) (H1 := rxH H c s m pa fu fi (us M 0) (us M 1) mat g') (hsc_rxH H c s m pa fu fi _ _ mat g') (by simp [rxH]) rfl ?_) (ih (d + 1) g' (by omega) hg' (fun _ => .inr hg') hr')
      have hl : (rxH H c s m pa fu fi (us M 0) (us M 1) mat g').length = H.length + 8 := by simp [rxH]
      rw [hl]
      exact ⟨.id (.bool _), .id (.int _ _), .id (.int _ _), .id (.int _ _), .id (.ptr (by omega)), .id (.ptr (by omega)), .id (.ptr (by omega)), .id (.ptr (by omega)), .id (.ptr (by omega)), .id (.ptr (by omega)), .id (.ptr (by omega)), .id (.int _ _), trivial⟩
    have dd : d = 0 ∨ d = 1 := by omega
    rcases dd with rfl | rfl
    · rw [if_neg (by simp)] at hr
      (repeat refine PW.seq ?_); refine PW.rg rfl fun K hK => ?_; simp (maxSteps := 3000000) (disch := omega) only [go_sem, ↓reduceIte, reduceCtorEq, pappend, plen]; refine hK _ _ ?_; clear hK K
      (repeat refine PW.seq ?_); refine PW.cond (t := _) rfl (fun h => ?_) (fun h => ?_)
      · cases h
      refine PW.skip ?_
      (repeat refine PW.seq ?_); refine PW.rg rfl fun K hK => ?_; simp (maxSteps := 3000000) (disch := omega) only [go_sem, ↓reduceIte, reduceCtorEq, pappend, plen, F5, F7, F8, F9]; refine hK _ _ ?_; clear hK K
      (repeat refine PW.seq ?_); refine PW.rg rfl fun K hK => ?_; simp (maxSteps := 3000000) (disch := omega) only [go_sem, ↓reduceIte, reduceCtorEq, pappend, plen]; refine hK _ _ ?_; clear hK K
      exact PL.at [2, 3, 6, 7, 8, 12, 13, 16, 18, 19, 20, 21] (fin g [⟨53, 0, fmc g⟩] hg hr) rfl (by unfold rxH; simp)
    · cases hu1 : us M 0 with
      | false =>
        rw [hu1, if_neg (by simp)] at hr
        rw [hu1] at fin
        (repeat refine PW.seq ?_); refine PW.rg rfl fun K hK => ?_; simp (maxSteps := 3000000) (disch := omega) only [go_sem, ↓reduceIte, reduceCtorEq, pappend, plen, hu1]; refine hK _ _ ?_; clear hK K
        (repeat refine PW.seq ?_); refine PW.cond (t := _) rfl (fun h => ?_) (fun h => ?_)
        · cases h
        refine PW.skip ?_
        (repeat refine PW.seq ?_); refine PW.rg rfl fun K hK => ?_; simp (maxSteps := 3000000) (disch := omega) only [go_sem, ↓reduceIte, reduceCtorEq, pappend, plen, F5, F7, F8, F9]; refine hK _ _ ?_; clear hK K
        (repeat refine PW.seq ?_); refine PW.rg rfl fun K hK => ?_; simp (maxSteps := 3000000) (disch := omega) only [go_sem, ↓reduceIte, reduceCtorEq, pappend, plen]; refine hK _ _ ?_; clear hK K
        exact PL.at [2, 3, 6, 7, 8, 12, 13, 16, 18, 19, 20, 21] (fin g [⟨53, 0, fmc g⟩] hg hr) rfl (by unfold rxH; simp)
      | true =>
        rw [hu1, if_pos ⟨rfl, rfl⟩] at hr
        rw [hu1] at fin
        have av := fun L => average_ref out g ho hg L
        have hmn : F16 (mnF out g) := mnF_16 ho g
        generalize mnF out g = g' at av hr hmn
        (repeat refine PW.seq ?_); refine PW.rg rfl fun K hK => ?_; simp (maxSteps := 3000000) (disch := omega) only [go_sem, ↓reduceIte, reduceCtorEq, pappend, plen, hu1]; refine hK _ _ ?_; clear hK K
        (repeat refine PW.seq ?_); refine PW.cond (t := _) rfl (fun h => ?_) (fun h => ?_)
        rotate_left
        · cases h
        (repeat refine PW.seq ?_); refine PW.rg rfl fun K hK => ?_; simp (maxSteps := 3000000) (disch := omega) only [go_sem, ↓reduceIte, reduceCtorEq, pappend, plen, F5, F7, F8, F9]; refine VCx.call (av _) rfl ?_; simp (maxSteps := 3000000) (disch := omega) only [go_sem, ↓reduceIte, reduceCtorEq, pappend, plen, F5, F7, F8, F9]; refine hK _ _ ?_; clear hK K
        (repeat refine PW.seq ?_); refine PW.rg rfl fun K hK => ?_; simp (maxSteps := 3000000) (disch := omega) only [go_sem, ↓reduceIte, reduceCtorEq, pappend, plen, F5, F7, F8, F9]; refine hK _ _ ?_; clear hK K
        (repeat refine PW.seq ?_); refine PW.rg rfl fun K hK => ?_; simp (maxSteps := 3000000) (disch := omega) only [go_sem, ↓reduceIte, reduceCtorEq, pappend, plen]; refine hK _ _ ?_; clear hK K
        exact PL.at [2, 3, 6, 7, 8, 12, 13, 16, 18, 19, 20, 21] (fin g' [⟨53, 0, fmc g'⟩] hmn hr) rfl (by unfold rxH; simp)

end Go.Proofs.YtahomnplappbpaaGreatDoor.Sc

namespace Go.Proofs.YtahomnplappbpaaGreatDoor.Sc
set_option linter.all false
set_option linter.unusedVariables false
set_option linter.unusedSimpArgs false
open Pm Ty Go.RowKit

theorem eqF_ref (f : Fm) (H : Heap) : CallOk Tryz.prog 17 [.agg (fmc f), .agg (fmc f)] H (.bool true) H := equal_ref f H
end Go.Proofs.YtahomnplappbpaaGreatDoor.Sc
