/-
  The law MacroblockReference's contract: the reference's function, and the law.
-/
import Derived.Test.YtooejnahjjmamaaFf
namespace Go.Proofs.Ytooejnahjjmamaa.Sc
set_option linter.all false
set_option linter.unusedVariables false
set_option linter.unusedSimpArgs false
open Pm Ty Go.RowKit

def fstF (c : Cx) (dir sel : Int) : Bool := fcx c && (c.n && (decide (c.t = 2) && (decide (dir = 0) && decide (sel ≠ pcx c))))
theorem vcx_n {c : Cx} (h : vcx c = true) (hn : c.n = true) : fcx c = true := by
  simp only [vcx, Bool.and_eq_true, decide_eq_true_eq] at h
  have h5 := h.2.2.2.2
  unfold fcx
  by_cases hs : c.s = 3
  · rw [if_pos hs, hn] at h5; cases h5
  · simpa using hs
theorem pick_fst {c : Cx} {pa fu fi : Fm} {dir sel : Int} (hb : badA c dir sel = false) :
    pickF c pa fu fi dir sel = (if dir = 1 then fu else if fstF c dir sel = true then fi else pa, !(fcx c) || fstF c dir sel) ∧ (dir = 1 → fstF c dir sel = false) := by
  have hv : vcx c = true := by
    cases h : vcx c with
    | true => rfl
    | false => rw [badA, h] at hb; simp at hb
  have hd : dir = 0 ∨ dir = 1 := by
    rw [badA, hv] at hb
    simp at hb
    omega
  rcases hd with rfl | rfl
  · refine ⟨?_, fun e => by omega⟩
    unfold pickF fstF
    cases hn : c.n
    · simp
    · have := vcx_n hv hn
      by_cases h2 : c.t = 2 <;> by_cases h3 : sel = pcx c <;> simp [this, h2, h3]
  · unfold pickF fstF
    simp

set_option maxHeartbeats 3200000 in
set_option maxRecDepth 10000 in
theorem Reference_ref (c : Cx) (pa fu fi : Fm) (dir sel : Int) (H : Heap) : CallOk Try.prog 7 [.agg (cxc c), .agg (fmc pa ++ (fmc fu ++ fmc fi)), .int .i64 dir, .int .i64 sel] H (.tup [.agg (fmc (refS c pa fu fi dir sel).1), .int .i64 (refS c pa fu fi dir sel).2]) H := by
  generalize hr : refS c pa fu fi dir sel = r
  have vc := fun H => vcx_ref c H
  have fc := fun H => fcx_ref c H
  have pc := fun H => pcx_ref c H
  have hps := @pick_sel c pa fu fi dir sel
  have hpf := @pick_fst c pa fu fi dir sel
  obtain ⟨t, s, i, n⟩ := c
  obtain ⟨w1, h1, y1, u1, v1⟩ := pa
  obtain ⟨w2, h2, y2, u2, v2⟩ := fu
  obtain ⟨w3, h3, y3, u3, v3⟩ := fi
  simp only [fmc, List.cons_append, List.nil_append]
  refine CallOk.body (F0 := [(0, .agg [.int .i64 t, .int .i64 s, .bool i, .bool n]), (1, .agg [.int .i64 w1, .int .i64 h1, .slice (bs y1) y1.length false, .slice (bs u1) u1.length false, .slice (bs v1) v1.length false, .int .i64 w2, .int .i64 h2, .slice (bs y2) y2.length false, .slice (bs u2) u2.length false, .slice (bs v2) v2.length false, .int .i64 w3, .int .i64 h3, .slice (bs y3) y3.length false, .slice (bs u3) u3.length false, .slice (bs v3) v3.length false]), (2, .int .i64 dir), (3, .int .i64 sel)]) Try.func7 rfl Try.ntmps7 Try.results7 rfl (by kernel_rfl) rfl ?_
  (repeat refine PW.seq ?_); refine PW.rg rfl fun K hK => ?_; simp (disch := omega) only [go_sem, ↓reduceIte, reduceCtorEq, pappend, plen]; refine hK _ _ ?_; clear hK K
  (repeat refine PW.seq ?_)
  refine PW.rgv (P := Try.prog) [2, 3, 4, 5, 8] 34 (.bool (badA ⟨t, s, i, n⟩ dir sel)) ?_ ?_ ?_
  · rfl
  · cases hv : vcx ⟨t, s, i, n⟩ <;> cases hf : fcx ⟨t, s, i, n⟩
    all_goals (rw [hv] at vc; rw [hf] at fc; simp (disch := omega) only [go_sem, ↓reduceIte, reduceCtorEq, pappend, plen]; (repeat' (first | ((first | refine VO_cond (fun h => ?_) (fun h => ?_) | refine VOd_cond (fun h => ?_) (fun h => ?_) | refine VOg_cond (fun h => ?_) (fun h => ?_) | refine And.intro (fun h => ?_) (fun h => ?_)) <;> (try simp only [Bool.not_eq_true', Bool.not_eq_false', decide_eq_true_eq, decide_eq_false_iff_not] at h) <;> simp (disch := omega) only [go_sem, ↓reduceIte, reduceCtorEq, pappend, plen, h]) | (refine VCx.call (vc _) rfl ?_; simp (disch := omega) only [go_sem, ↓reduceIte, reduceCtorEq, pappend, plen]) | (refine VCx.call (fc _) rfl ?_; simp (disch := omega) only [go_sem, ↓reduceIte, reduceCtorEq, pappend, plen]) | (refine VCy.call (vc _) rfl ?_; simp (disch := omega) only [go_sem, ↓reduceIte, reduceCtorEq, pappend, plen]) | (refine VCy.call (fc _) rfl ?_; simp (disch := omega) only [go_sem, ↓reduceIte, reduceCtorEq, pappend, plen]) | (refine VCz.call (fun _ => vc _) rfl ?_; simp (disch := omega) only [go_sem, ↓reduceIte, reduceCtorEq, pappend, plen]) | (refine VCz.call (fun _ => fc _) rfl ?_; simp (disch := omega) only [go_sem, ↓reduceIte, reduceCtorEq, pappend, plen]))))
    all_goals (clear vc fc pc hr hps hpf; (simp_all [badA, slot, Nat.beq] <;> first | rfl | omega | (rw [Bool.eq_iff_iff]; simp; done) | (rw [Bool.eq_iff_iff]; simp; omega)))
  (repeat refine PW.seq ?_); refine PW.cond (t := _) rfl (fun h => ?_) (fun h => ?_)
  · have hb : badA ⟨t, s, i, n⟩ dir sel = true := h
    (repeat refine PW.seq ?_); refine PW.rg rfl fun K hK => ?_; simp (disch := omega) only [go_sem, ↓reduceIte, reduceCtorEq, pappend, plen]; refine hK _ _ ?_; clear hK K
    refine PW.ret ⟨.tup [.agg [.int .i64 0, .int .i64 0, .slice [] 0 true, .slice [] 0 true, .slice [] 0 true], .int .i64 1], by simp (disch := omega) only [go_sem, ↓reduceIte, reduceCtorEq, pappend, plen, presults, presult, List.mapM_cons, List.mapM_nil, Option.pure_def, Option.bind_eq_bind, Option.bind_some, Array.toList], ?_⟩
    rw [← hr, refS, if_pos hb]
    exact Fin.base (fz0 _ _ _)
  have hb : badA ⟨t, s, i, n⟩ dir sel = false := h
  have hsl := hps hb
  obtain ⟨hp1', hp2'⟩ := hpf hb
  rw [refS, if_neg (by rw [hb]; simp), hp1'] at hr
  rw [hp1'] at hsl
  clear hps hpf hp1'
  refine PW.skip ?_
  (repeat refine PW.seq ?_); refine PW.rg rfl fun K hK => ?_; simp (disch := omega) only [go_sem, ↓reduceIte, reduceCtorEq, pappend, plen]; refine hK _ _ ?_; clear hK K
  generalize hfs : fstF ⟨t, s, i, n⟩ dir sel = fst at *
  generalize hff : fcx ⟨t, s, i, n⟩ = ff at *
  suffices hrest : ∀ (w ht : Int) (y u v : List UInt8), (if dir = 1 then (⟨w2, h2, y2, u2, v2⟩ : Fm) else if fst = true then ⟨w3, h3, y3, u3, v3⟩ else ⟨w1, h1, y1, u1, v1⟩) = ⟨w, ht, y, u, v⟩ → PW Try.prog _ _ [(3, .int .i64 sel), (4, .ptr H.length 0 0), (8, .ptr (H.length + 2) 0 0), (10, .ptr (H.length + 3) 0 0), (11, .bool fst)] (H ++ [⟨23, 0, [.int .i64 t, .int .i64 s, .bool i, .bool n]⟩, ⟨28, 0, [.int .i64 w1, .int .i64 h1, .slice (bs y1) y1.length false, .slice (bs u1) u1.length false, .slice (bs v1) v1.length false, .int .i64 w2, .int .i64 h2, .slice (bs y2) y2.length false, .slice (bs u2) u2.length false, .slice (bs v2) v2.length false, .int .i64 w3, .int .i64 h3, .slice (bs y3) y3.length false, .slice (bs u3) u3.length false, .slice (bs v3) v3.length false]⟩, ⟨26, 0, [.int .i64 0, .int .i64 0, .slice [] 0 true, .slice [] 0 true, .slice [] 0 true]⟩, ⟨26, 0, [.int .i64 w, .int .i64 ht, .slice (bs y) y.length false, .slice (bs u) u.length false, .slice (bs v) v.length false]⟩]) _ by
    (repeat refine PW.seq ?_); refine PW.rg rfl fun K hK => ?_; simp (disch := omega) only [go_sem, ↓reduceIte, reduceCtorEq, pappend, plen]; refine hK _ _ ?_; clear hK K
    (repeat refine PW.seq ?_); refine PW.cond (t := _) rfl (fun h => ?_) (fun h => ?_)
    · have hd : dir = 1 := by simpa using h
      have hfst := hp2' hd
      subst hfst
      (repeat refine PW.seq ?_); refine PW.rg rfl fun K hK => ?_; simp (disch := omega) only [go_sem, ↓reduceIte, reduceCtorEq, pappend, plen]; refine hK _ _ ?_; clear hK K
      (repeat refine PW.seq ?_)
      refine PW.rgv (P := Try.prog) [3, 4, 5, 8, 10] 11 (.bool false) ?_ ?_ ?_
      · rfl
      rotate_left
      · (repeat refine PW.seq ?_); refine PW.rg rfl fun K hK => ?_; simp (disch := omega) only [go_sem, ↓reduceIte, reduceCtorEq, pappend, plen]; refine hK _ _ ?_; clear hK K
        (repeat refine PW.seq ?_); refine PW.cond (t := _) rfl (fun h => ?_) (fun h => ?_)
        · cases h
        refine PW.skip ?_
        exact PW.at [3, 4, 8, 10, 11] (hrest w2 h2 y2 u2 v2 (if_pos hd)) rfl rfl
      · clear hrest hr hsl
        subst hd
        cases ff <;> simp (disch := omega) only [go_sem, ↓reduceIte, reduceCtorEq, pappend, plen] <;> (repeat' (first | ((first | refine VO_cond (fun h => ?_) (fun h => ?_) | refine VOd_cond (fun h => ?_) (fun h => ?_) | refine VOg_cond (fun h => ?_) (fun h => ?_) | refine And.intro (fun h => ?_) (fun h => ?_)) <;> (try simp only [Bool.not_eq_true', Bool.not_eq_false', decide_eq_true_eq, decide_eq_false_iff_not] at h) <;> simp (disch := omega) only [go_sem, ↓reduceIte, reduceCtorEq, pappend, plen, h]) | (refine VCx.call (fc _) rfl ?_; simp (disch := omega) only [go_sem, ↓reduceIte, reduceCtorEq, pappend, plen]) | (refine VCx.call (pcx_ref ⟨_, _, _, _⟩ _) rfl ?_; simp (disch := omega) only [go_sem, ↓reduceIte, reduceCtorEq, pappend, plen]) | (refine VCy.call (fc _) rfl ?_; simp (disch := omega) only [go_sem, ↓reduceIte, reduceCtorEq, pappend, plen]) | (refine VCy.call (pcx_ref ⟨_, _, _, _⟩ _) rfl ?_; simp (disch := omega) only [go_sem, ↓reduceIte, reduceCtorEq, pappend, plen]) | (refine VCz.call (fun _ => fc _) rfl ?_; simp (disch := omega) only [go_sem, ↓reduceIte, reduceCtorEq, pappend, plen]) | (refine VCz.call (fun _ => pcx_ref ⟨_, _, _, _⟩ _) rfl ?_; simp (disch := omega) only [go_sem, ↓reduceIte, reduceCtorEq, pappend, plen])))
        all_goals (clear vc fc pc; (simp_all [slot, Nat.beq] <;> first | rfl | omega | (rw [Bool.eq_iff_iff]; simp; done) | (rw [Bool.eq_iff_iff]; simp; omega)))
    · have hd : dir ≠ 1 := by simpa using h
      refine PW.skip ?_
      (repeat refine PW.seq ?_)
      refine PW.rgv (P := Try.prog) [3, 4, 5, 8, 10] 11 (.bool fst) ?_ ?_ ?_
      · rfl
      · clear hrest hr hsl
        rw [← hfs]
        cases ff <;> simp (disch := omega) only [go_sem, ↓reduceIte, reduceCtorEq, pappend, plen] <;> (repeat' (first | ((first | refine VO_cond (fun h => ?_) (fun h => ?_) | refine VOd_cond (fun h => ?_) (fun h => ?_) | refine VOg_cond (fun h => ?_) (fun h => ?_) | refine And.intro (fun h => ?_) (fun h => ?_)) <;> (try simp only [Bool.not_eq_true', Bool.not_eq_false', decide_eq_true_eq, decide_eq_false_iff_not] at h) <;> simp (disch := omega) only [go_sem, ↓reduceIte, reduceCtorEq, pappend, plen, h]) | (refine VCx.call (fc _) rfl ?_; simp (disch := omega) only [go_sem, ↓reduceIte, reduceCtorEq, pappend, plen]) | (refine VCx.call (pcx_ref ⟨_, _, _, _⟩ _) rfl ?_; simp (disch := omega) only [go_sem, ↓reduceIte, reduceCtorEq, pappend, plen]) | (refine VCy.call (fc _) rfl ?_; simp (disch := omega) only [go_sem, ↓reduceIte, reduceCtorEq, pappend, plen]) | (refine VCy.call (pcx_ref ⟨_, _, _, _⟩ _) rfl ?_; simp (disch := omega) only [go_sem, ↓reduceIte, reduceCtorEq, pappend, plen]) | (refine VCz.call (fun _ => fc _) rfl ?_; simp (disch := omega) only [go_sem, ↓reduceIte, reduceCtorEq, pappend, plen]) | (refine VCz.call (fun _ => pcx_ref ⟨_, _, _, _⟩ _) rfl ?_; simp (disch := omega) only [go_sem, ↓reduceIte, reduceCtorEq, pappend, plen])))
        all_goals (clear vc fc pc hfs hp2' hb; first | (simp_all [fstF, fcx, slot, Nat.beq] <;> first | rfl | omega | (rw [Bool.eq_iff_iff]; simp; done) | (rw [Bool.eq_iff_iff]; simp; omega)) | (simp_all [fstF, fcx, pcx, slot, Nat.beq] <;> first | rfl | omega | (rw [Bool.eq_iff_iff]; simp; done) | (rw [Bool.eq_iff_iff]; simp; omega)))
      (repeat refine PW.seq ?_); refine PW.rg rfl fun K hK => ?_; simp (disch := omega) only [go_sem, ↓reduceIte, reduceCtorEq, pappend, plen]; refine hK _ _ ?_; clear hK K
      (repeat refine PW.seq ?_); refine PW.cond (t := _) rfl (fun h => ?_) (fun h => ?_)
      · subst h
        (repeat refine PW.seq ?_); refine PW.rg rfl fun K hK => ?_; simp (disch := omega) only [go_sem, ↓reduceIte, reduceCtorEq, pappend, plen]; refine hK _ _ ?_; clear hK K
        exact PW.at [3, 4, 8, 10, 11] (hrest w3 h3 y3 u3 v3 (by rw [if_neg hd, if_pos rfl])) rfl rfl
      · subst h
        refine PW.skip ?_
        exact PW.at [3, 4, 8, 10, 11] (hrest w1 h1 y1 u1 v1 (by rw [if_neg hd, if_neg (by simp)])) rfl rfl
  intro w ht y u v hpk
  rw [hpk] at hr
  simp only at hr hsl
  clear hpk hb vc pc hfs hp2'
  (repeat refine PW.seq ?_); refine PW.rg rfl fun K hK => ?_; simp (disch := omega) only [go_sem, ↓reduceIte, reduceCtorEq, pappend, plen]; refine hK _ _ ?_; clear hK K
  (repeat refine PW.seq ?_); refine PW.cond (t := _) rfl (fun h => ?_) (fun h => ?_)
  · have hw0 : w = 0 := by simpa using h
    (repeat refine PW.seq ?_); refine PW.rg rfl fun K hK => ?_; simp (disch := omega) only [go_sem, ↓reduceIte, reduceCtorEq, pappend, plen]; refine hK _ _ ?_; clear hK K
    refine PW.ret ⟨.tup [.agg [.int .i64 0, .int .i64 0, .slice [] 0 true, .slice [] 0 true, .slice [] 0 true], .int .i64 6], by simp (disch := omega) only [go_sem, ↓reduceIte, reduceCtorEq, pappend, plen, presults, presult, List.mapM_cons, List.mapM_nil, Option.pure_def, Option.bind_eq_bind, Option.bind_some, Array.toList], ?_⟩
    rw [← hr, lastF, if_pos hw0]
    exact Fin.base (fz0 _ _ _)
  have hw0 : w ≠ 0 := by simpa using h
  rw [lastF, if_neg (by exact hw0)] at hr
  refine PW.skip ?_
  have va := fun H => valid_ref ⟨w, ht, y, u, v⟩ H
  (repeat refine PW.seq ?_)
  refine PW.rgv (P := Try.prog) [3, 4, 8, 10, 11] 86 (.bool (!(fvd ⟨w, ht, y, u, v⟩) || (!(!ff || fst) && decide (ht % 32 ≠ 0)))) ?_ ?_ ?_
  · rfl
  · clear hr hsl
    cases hv : fvd ⟨w, ht, y, u, v⟩
    · rw [hv] at va
      simp (disch := omega) only [go_sem, ↓reduceIte, reduceCtorEq, pappend, plen]; (repeat' (first | ((first | refine VO_cond (fun h => ?_) (fun h => ?_) | refine VOd_cond (fun h => ?_) (fun h => ?_) | refine VOg_cond (fun h => ?_) (fun h => ?_) | refine And.intro (fun h => ?_) (fun h => ?_)) <;> (try simp only [Bool.not_eq_true', Bool.not_eq_false', decide_eq_true_eq, decide_eq_false_iff_not] at h) <;> simp (disch := omega) only [go_sem, ↓reduceIte, reduceCtorEq, pappend, plen, h]) | (refine VCx.call (va _) rfl ?_; simp (disch := omega) only [go_sem, ↓reduceIte, reduceCtorEq, pappend, plen]) | (refine VCy.call (va _) rfl ?_; simp (disch := omega) only [go_sem, ↓reduceIte, reduceCtorEq, pappend, plen]) | (refine VCz.call (fun _ => va _) rfl ?_; simp (disch := omega) only [go_sem, ↓reduceIte, reduceCtorEq, pappend, plen])))
      all_goals (clear va fc; (simp_all [slot, Nat.beq] <;> first | rfl | omega | (rw [Bool.eq_iff_iff]; simp; done) | (rw [Bool.eq_iff_iff]; simp; omega)))
    · rw [hv] at va
      have hpos : 0 ≤ ht := by
        simp only [fvd, fmd, Bool.and_eq_true] at hv
        have := fsz_of hv.1.1
        omega
      cases ff <;> cases fst <;> simp (disch := omega) only [go_sem, ↓reduceIte, reduceCtorEq, pappend, plen] <;> (repeat' (first | ((first | refine VO_cond (fun h => ?_) (fun h => ?_) | refine VOd_cond (fun h => ?_) (fun h => ?_) | refine VOg_cond (fun h => ?_) (fun h => ?_) | refine And.intro (fun h => ?_) (fun h => ?_)) <;> (try simp only [Bool.not_eq_true', Bool.not_eq_false', decide_eq_true_eq, decide_eq_false_iff_not] at h) <;> simp (disch := omega) only [go_sem, ↓reduceIte, reduceCtorEq, pappend, plen, tmod_pos, h]) | (refine VCx.call (va _) rfl ?_; simp (disch := omega) only [go_sem, ↓reduceIte, reduceCtorEq, pappend, plen, tmod_pos]) | (refine VCx.call (fc _) rfl ?_; simp (disch := omega) only [go_sem, ↓reduceIte, reduceCtorEq, pappend, plen, tmod_pos]) | (refine VCy.call (va _) rfl ?_; simp (disch := omega) only [go_sem, ↓reduceIte, reduceCtorEq, pappend, plen, tmod_pos]) | (refine VCy.call (fc _) rfl ?_; simp (disch := omega) only [go_sem, ↓reduceIte, reduceCtorEq, pappend, plen, tmod_pos]) | (refine VCz.call (fun _ => va _) rfl ?_; simp (disch := omega) only [go_sem, ↓reduceIte, reduceCtorEq, pappend, plen, tmod_pos]) | (refine VCz.call (fun _ => fc _) rfl ?_; simp (disch := omega) only [go_sem, ↓reduceIte, reduceCtorEq, pappend, plen, tmod_pos])))
      all_goals (clear va fc; (simp_all [slot, Nat.beq] <;> first | rfl | omega | (rw [Bool.eq_iff_iff]; simp; done) | (rw [Bool.eq_iff_iff]; simp; omega)))
  (repeat refine PW.seq ?_); refine PW.cond (t := _) rfl (fun h => ?_) (fun h => ?_)
  · have hq : (!(fvd ⟨w, ht, y, u, v⟩) || (!(!ff || fst) && decide (ht % 32 ≠ 0))) = true := h
    (repeat refine PW.seq ?_); refine PW.rg rfl fun K hK => ?_; simp (disch := omega) only [go_sem, ↓reduceIte, reduceCtorEq, pappend, plen]; refine hK _ _ ?_; clear hK K
    refine PW.ret ⟨.tup [.agg [.int .i64 0, .int .i64 0, .slice [] 0 true, .slice [] 0 true, .slice [] 0 true], .int .i64 1], by simp (disch := omega) only [go_sem, ↓reduceIte, reduceCtorEq, pappend, plen, presults, presult, List.mapM_cons, List.mapM_nil, Option.pure_def, Option.bind_eq_bind, Option.bind_some, Array.toList], ?_⟩
    rw [if_pos hq] at hr
    rw [← hr]
    exact Fin.base (fz0 _ _ _)
  have hq : (!(fvd ⟨w, ht, y, u, v⟩) || (!(!ff || fst) && decide (ht % 32 ≠ 0))) = false := h
  rw [if_neg (by rw [hq]; simp)] at hr
  refine PW.skip ?_
  (repeat refine PW.seq ?_)
  refine PW.rgv (P := Try.prog) [3, 8, 10] 93 (.bool (!ff || fst)) ?_ ?_ ?_
  · rfl
  · clear hr hsl hq
    cases ff <;> simp (disch := omega) only [go_sem, ↓reduceIte, reduceCtorEq, pappend, plen] <;> (repeat' (first | ((first | refine VO_cond (fun h => ?_) (fun h => ?_) | refine VOd_cond (fun h => ?_) (fun h => ?_) | refine VOg_cond (fun h => ?_) (fun h => ?_) | refine And.intro (fun h => ?_) (fun h => ?_)) <;> (try simp only [Bool.not_eq_true', Bool.not_eq_false', decide_eq_true_eq, decide_eq_false_iff_not] at h) <;> simp (disch := omega) only [go_sem, ↓reduceIte, reduceCtorEq, pappend, plen, h]) | (refine VCx.call (fc _) rfl ?_; simp (disch := omega) only [go_sem, ↓reduceIte, reduceCtorEq, pappend, plen]) | (refine VCy.call (fc _) rfl ?_; simp (disch := omega) only [go_sem, ↓reduceIte, reduceCtorEq, pappend, plen]) | (refine VCz.call (fun _ => fc _) rfl ?_; simp (disch := omega) only [go_sem, ↓reduceIte, reduceCtorEq, pappend, plen])))
    all_goals (clear va fc; (simp_all [slot, Nat.beq] <;> first | rfl | omega | (rw [Bool.eq_iff_iff]; simp; done) | (rw [Bool.eq_iff_iff]; simp; omega)))
  generalize hwh : (!ff || fst) = wh at *
  (repeat refine PW.seq ?_); refine PW.cond (t := _) rfl (fun h => ?_) (fun h => ?_)
  · subst h
    (repeat refine PW.seq ?_); refine PW.rg rfl fun K hK => ?_; simp (disch := omega) only [go_sem, ↓reduceIte, reduceCtorEq, pappend, plen]; refine hK _ _ ?_; clear hK K
    refine PW.ret ⟨.tup [.agg [.int .i64 w, .int .i64 ht, .slice (bs y) y.length false, .slice (bs u) u.length false, .slice (bs v) v.length false], .int .i64 0], by simp (disch := omega) only [go_sem, ↓reduceIte, reduceCtorEq, pappend, plen, presults, presult, List.mapM_cons, List.mapM_nil, Option.pure_def, Option.bind_eq_bind, Option.bind_some, Array.toList], ?_⟩
    rw [if_pos rfl] at hr
    rw [← hr]
    exact Fin.base (.id (fe_scoped _ _ _ _ _ _ _ _ _ _))
  · subst h
    refine PW.skip ?_
    have hq1 : fvd ⟨w, ht, y, u, v⟩ = true := by
      cases hv : fvd ⟨w, ht, y, u, v⟩ with
      | true => rfl
      | false => rw [hv] at hq; cases hq
    have hq2 : ht % 32 = 0 := by rw [hq1] at hq; simp at hq; omega
    obtain ⟨V, K, rfl, rfl, hok⟩ := fvd_fr4 hq1 hq2
    obtain ⟨P, hP, rfl⟩ : ∃ P : Nat, P ≤ 1 ∧ sel = (P : Int) := by
      rcases hsl rfl with e | e
      · exact ⟨0, by omega, by omega⟩
      · exact ⟨1, by omega, by omega⟩
    have fo := fun H => field_ref V K P y u v H hok hP
    have e1 := fieldOf_fr4 V K P y u v
    rw [if_neg (by simp)] at hr
    have hr3 : r = (fld V K P y u v, 0) := by rw [← hr, ← e1]; rfl
    rw [hr3]
    obtain ⟨g, hg⟩ : ∃ g, fld V K P y u v = g := ⟨_, rfl⟩
    rw [hg] at fo ⊢
    obtain ⟨a1, a2, a3, a4, a5⟩ := g
    simp only [fmc, fr4] at fo ⊢
    (repeat refine PW.seq ?_); refine PW.rg rfl fun K hK => ?_; simp (disch := omega) only [go_sem, ↓reduceIte, reduceCtorEq, pappend, plen]; refine VCx.call (fo _) rfl ?_; simp (disch := omega) only [go_sem, ↓reduceIte, reduceCtorEq, pappend, plen]; refine hK _ _ ?_; clear hK K
    refine PW.ret ⟨.tup [.agg [.int .i64 a1, .int .i64 a2, .slice (bs a3) a3.length false, .slice (bs a4) a4.length false, .slice (bs a5) a5.length false], .int .i64 0], by simp (disch := omega) only [go_sem, ↓reduceIte, reduceCtorEq, pappend, plen, presults, presult, List.mapM_cons, List.mapM_nil, Option.pure_def, Option.bind_eq_bind, Option.bind_some, Array.toList], ?_⟩
    exact Fin.base (.id (fe_scoped _ _ _ _ _ _ _ _ _ _))

def mx3 (a b c : Int) : Int := if c > (if b > a then b else a) then c else (if b > a then b else a)
theorem pmax3 (k : IntKind) (a b c : Int) : pfold pmax (.int k a) [.int k b, .int k c] = some (.int k (mx3 a b c)) := rfl
def mx6 (a b c d e f : Int) : Int := (fun x => if f > x then f else x) ((fun x => if e > x then e else x) ((fun x => if d > x then d else x) (mx3 a b c)))
theorem pmax6 (k : IntKind) (a b c d e f : Int) : pfold pmax (.int k a) [.int k b, .int k c, .int k d, .int k e, .int k f] = some (.int k (mx6 a b c d e f)) := rfl
attribute [go_sem high] pmax3 pmax6
def lightB (pa fu fi : Fm) : Bool := decide (mx3 pa.y.length fu.y.length fi.y.length ≤ 5000) && decide (mx6 pa.u.length fu.u.length fi.u.length pa.v.length fu.v.length fi.v.length ≤ 2000)
set_option maxHeartbeats 1600000 in
theorem light_ok (pa fu fi : Fm) (H : Heap) : CallOk Try.prog 4 [.agg (fmc pa ++ (fmc fu ++ fmc fi))] H (.bool (lightB pa fu fi)) H := by
  obtain ⟨w1, h1, y1, u1, v1⟩ := pa
  obtain ⟨w2, h2, y2, u2, v2⟩ := fu
  obtain ⟨w3, h3, y3, u3, v3⟩ := fi
  simp only [fmc, List.cons_append, List.nil_append]
  refine CallOk.body (F0 := [(0, .agg [.int .i64 w1, .int .i64 h1, .slice (bs y1) y1.length false, .slice (bs u1) u1.length false, .slice (bs v1) v1.length false, .int .i64 w2, .int .i64 h2, .slice (bs y2) y2.length false, .slice (bs u2) u2.length false, .slice (bs v2) v2.length false, .int .i64 w3, .int .i64 h3, .slice (bs y3) y3.length false, .slice (bs u3) u3.length false, .slice (bs v3) v3.length false])]) Try.func4 rfl Try.ntmps4 Try.results4 rfl (by kernel_rfl) rfl ?_
  (repeat refine PW.seq ?_); refine PW.rg rfl fun K hK => ?_; simp (disch := omega) only [go_sem, ↓reduceIte, reduceCtorEq, pappend, plen]; refine hK _ _ ?_; clear hK K
  (repeat refine PW.seq ?_); refine PW.rg rfl fun K hK => ?_; simp (disch := omega) only [go_sem, ↓reduceIte, reduceCtorEq, pappend, plen]; refine hK _ _ ?_; clear hK K
  (repeat refine PW.seq ?_); refine PW.rg rfl fun K hK => ?_; simp (maxSteps := 2000000) (disch := omega) only [go_sem, ↓reduceIte, reduceCtorEq, pappend, plen]; refine hK _ _ ?_; clear hK K
  (repeat refine PW.seq ?_)
  refine PW.at [3, 4] (F1 := [(3, .int .i64 (mx3 y1.length y2.length y3.length)), (4, .int .i64 (mx6 u1.length u2.length u3.length v1.length v2.length v3.length))]) ?_ rfl rfl
  unfold lightB
  simp only
  generalize mx3 y1.length y2.length y3.length = m3
  generalize mx6 u1.length u2.length u3.length v1.length v2.length v3.length = m6
  (repeat refine PW.seq ?_); refine PW.rg rfl fun K hK => ?_; simp (disch := omega) only [go_sem, ↓reduceIte, reduceCtorEq, pappend, plen]; (repeat' ((first | refine VO_cond (fun h => ?_) (fun h => ?_) | refine VOd_cond (fun h => ?_) (fun h => ?_) | refine VOg_cond (fun h => ?_) (fun h => ?_) | refine And.intro (fun h => ?_) (fun h => ?_)) <;> (try simp only [Bool.not_eq_true', Bool.not_eq_false', decide_eq_true_eq, decide_eq_false_iff_not] at h) <;> simp (disch := omega) only [go_sem, ↓reduceIte, reduceCtorEq, pappend, plen, h]))
  all_goals (refine hK _ _ ?_; clear hK; (refine PW.ret ⟨_, rfl, ?_⟩; first | refine .inl ⟨?_, rfl⟩ | refine Fin.base (.id' ?_ (.bool _)) | refine Fin.base (.id' ?_ (.int _ _))); (simp_all [slot, Nat.beq] <;> first | rfl | omega | (rw [Bool.eq_iff_iff]; simp; done) | (rw [Bool.eq_iff_iff]; simp; omega)))

set_option maxHeartbeats 1600000 in
set_option maxRecDepth 10000 in
theorem law_reference (c : Cx) (pa fu fi : Fm) (dir sel : Int) (H : Heap) : CallOk Try.prog 3 [.agg (cxc c), .agg (fmc pa ++ (fmc fu ++ fmc fi)), .int .i64 dir, .int .i64 sel] H (.bool true) H := by
  have lc := fun H => light_ok pa fu fi H
  have sc := fun H => samec_ok c H
  have r1 := fun H => Reference_ok c pa fu fi dir sel H
  have r2 := fun H => Reference_ref c pa fu fi dir sel H
  generalize refS c pa fu fi dir sel = r at r1 r2
  obtain ⟨f, e⟩ := r
  have eq := fun H => equal_ref f H
  obtain ⟨t, s, i, n⟩ := c
  obtain ⟨w1, h1, y1, u1, v1⟩ := pa
  obtain ⟨w2, h2, y2, u2, v2⟩ := fu
  obtain ⟨w3, h3, y3, u3, v3⟩ := fi
  obtain ⟨w, ht, y, u, v⟩ := f
  generalize lightB ⟨w1, h1, y1, u1, v1⟩ ⟨w2, h2, y2, u2, v2⟩ ⟨w3, h3, y3, u3, v3⟩ = lb at lc
  simp only [fmc, cxc, List.cons_append, List.nil_append] at lc sc r1 r2 eq ⊢
  refine CallOk.body (F0 := [(0, .agg [.int .i64 t, .int .i64 s, .bool i, .bool n]), (1, .agg [.int .i64 w1, .int .i64 h1, .slice (bs y1) y1.length false, .slice (bs u1) u1.length false, .slice (bs v1) v1.length false, .int .i64 w2, .int .i64 h2, .slice (bs y2) y2.length false, .slice (bs u2) u2.length false, .slice (bs v2) v2.length false, .int .i64 w3, .int .i64 h3, .slice (bs y3) y3.length false, .slice (bs u3) u3.length false, .slice (bs v3) v3.length false]), (2, .int .i64 dir), (3, .int .i64 sel)]) Try.func3 rfl Try.ntmps3 Try.results3 rfl (by kernel_rfl) rfl ?_
  (repeat refine PW.seq ?_); refine PW.rg rfl fun K hK => ?_; simp (disch := omega) only [go_sem, ↓reduceIte, reduceCtorEq, pappend, plen]; refine hK _ _ ?_; clear hK K
  (repeat refine PW.seq ?_); refine PW.rg rfl fun K hK => ?_; simp (disch := omega) only [go_sem, ↓reduceIte, reduceCtorEq, pappend, plen]; refine VCx.call (lc _) rfl ?_; simp (disch := omega) only [go_sem, ↓reduceIte, reduceCtorEq, pappend, plen]; refine hK _ _ ?_; clear hK K
  (repeat refine PW.seq ?_); refine PW.cond (t := _) rfl (fun h => ?_) (fun h => ?_)
  · (repeat refine PW.seq ?_); refine PW.rg rfl fun K hK => ?_; simp (disch := omega) only [go_sem, ↓reduceIte, reduceCtorEq, pappend, plen]; refine hK _ _ ?_; clear hK K
    (refine PW.ret ⟨_, rfl, ?_⟩; first | refine .inl ⟨?_, rfl⟩ | refine Fin.base (.id' ?_ (.bool _)) | refine Fin.base (.id' ?_ (.int _ _)))
    rfl
  refine PW.skip ?_
  (repeat refine PW.seq ?_); refine PW.drawg mix (by kernel_rfl) fun K hK => ?_; simp (disch := omega) only [go_sem, ↓reduceIte, reduceCtorEq, pappend, plen]; refine VCz.call (fun _ => sc _) rfl ?_; simp (disch := omega) only [go_sem, ↓reduceIte, reduceCtorEq, pappend, plen]; refine VCz.call (fun _ => r1 _) rfl ?_; simp (disch := omega) only [go_sem, ↓reduceIte, reduceCtorEq, pappend, plen]; refine hK _ _ ?_; clear hK K
  (repeat refine PW.seq ?_); refine PW.rg rfl fun K hK => ?_; simp (disch := omega) only [go_sem, ↓reduceIte, reduceCtorEq, pappend, plen]; refine VCx.call (r2 _) rfl ?_; simp (disch := omega) only [go_sem, ↓reduceIte, reduceCtorEq, pappend, plen]; refine hK _ _ ?_; clear hK K
  (repeat refine PW.seq ?_); refine PW.rg rfl fun K hK => ?_; simp (disch := omega) only [go_sem, ↓reduceIte, reduceCtorEq, pappend, plen]
  (repeat' (first | ((first | refine VO_cond (fun h => ?_) (fun h => ?_) | refine VOd_cond (fun h => ?_) (fun h => ?_) | refine VOg_cond (fun h => ?_) (fun h => ?_) | refine And.intro (fun h => ?_) (fun h => ?_)) <;> (try simp only [Bool.not_eq_true', Bool.not_eq_false', decide_eq_true_eq, decide_eq_false_iff_not] at h) <;> simp (disch := omega) only [go_sem, ↓reduceIte, reduceCtorEq, pappend, plen, h]) | (refine VCx.call (awake10 _) rfl ?_; simp (disch := omega) only [go_sem, ↓reduceIte, reduceCtorEq, pappend, plen]) | (refine VCx.call (eq _) rfl ?_; simp (disch := omega) only [go_sem, ↓reduceIte, reduceCtorEq, pappend, plen]) | (refine VCy.call (awake10 _) rfl ?_; simp (disch := omega) only [go_sem, ↓reduceIte, reduceCtorEq, pappend, plen]) | (refine VCy.call (eq _) rfl ?_; simp (disch := omega) only [go_sem, ↓reduceIte, reduceCtorEq, pappend, plen]) | (refine VCz.call (fun _ => awake10 _) rfl ?_; simp (disch := omega) only [go_sem, ↓reduceIte, reduceCtorEq, pappend, plen]) | (refine VCz.call (fun _ => eq _) rfl ?_; simp (disch := omega) only [go_sem, ↓reduceIte, reduceCtorEq, pappend, plen])))
  all_goals (refine hK _ _ ?_; clear hK; (refine PW.ret ⟨_, rfl, ?_⟩; first | refine .inl ⟨?_, rfl⟩ | refine Fin.base (.id' ?_ (.bool _)) | refine Fin.base (.id' ?_ (.int _ _))); (simp_all [slot, Nat.beq] <;> first | rfl | omega | (rw [Bool.eq_iff_iff]; simp; done) | (rw [Bool.eq_iff_iff]; simp; omega)))

end Go.Proofs.Ytooejnahjjmamaa.Sc
