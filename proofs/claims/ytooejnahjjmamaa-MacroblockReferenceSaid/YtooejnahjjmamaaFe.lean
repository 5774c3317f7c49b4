/-
  Contracts of chapter 10: the reference pictures, the program's.
-/
import Derived.Test.YtooejnahjjmamaaFd
namespace Go.Proofs.Ytooejnahjjmamaa.Sc
set_option linter.all false
set_option linter.unusedVariables false
set_option linter.unusedSimpArgs false
open Pm Ty Go.RowKit

def f0 : Fm := ⟨0, 0, [], [], []⟩
def badA (c : Cx) (dir sel : Int) : Bool := !(vcx c) || ((decide (dir ≠ 0) && decide (dir ≠ 1)) || (fcx c && (decide (sel ≠ 0) && decide (sel ≠ 1))))
def pickF (c : Cx) (pa fu fi : Fm) (dir sel : Int) : Fm × Bool := if dir = 1 then (fu, !(fcx c)) else if (c.n && (decide (c.t = 2) && decide (sel ≠ pcx c))) = true then (fi, true) else (pa, !(fcx c))
def fieldOf (f : Fm) (sel : Int) : Fm := fld (f.w / 2).toNat (f.h / 4).toNat sel.toNat f.y f.u f.v
def lastF (f : Fm) (wh : Bool) (sel : Int) : Fm × Int := if f.w = 0 then (f0, 6) else if (!(fvd f) || (!wh && decide (f.h % 32 ≠ 0))) = true then (f0, 1) else if wh = true then (f, 0) else (fieldOf f sel, 0)
/-- What Reference answers. -/
def refS (c : Cx) (pa fu fi : Fm) (dir sel : Int) : Fm × Int := if badA c dir sel = true then (f0, 1) else lastF (pickF c pa fu fi dir sel).1 (pickF c pa fu fi dir sel).2 sel
theorem fz0 (n : Nat) (K : Heap) (e : Int) : Fz n K (.tup [.agg [.int .i64 0, .int .i64 0, .slice [] 0 true, .slice [] 0 true, .slice [] 0 true], .int .i64 e]) (.tup [.agg (fmc f0), .int .i64 e]) :=
  Fz.tupC ⟨Fz.aggC ⟨.id (.int _ _), .id (.int _ _), .slice rfl (fun j x y hx => by simp at hx) (fun e => by cases e), .slice rfl (fun j x y hx => by simp at hx) (fun e => by cases e), .slice rfl (fun j x y hx => by simp at hx) (fun e => by cases e), trivial⟩, .id (.int _ _), trivial⟩
theorem fvd_fr4 {w ht : Int} {y u v : List UInt8} (h : fvd ⟨w, ht, y, u, v⟩ = true) (h32 : ht % 32 = 0) : ∃ V K : Nat, w = ((2 * V : Nat) : Int) ∧ ht = ((4 * K : Nat) : Int) ∧ Fok V K y u v := by
  simp only [fvd, fmd, Bool.and_eq_true, decide_eq_true_eq] at h
  obtain ⟨⟨hs, hy, hu, hv⟩, hw, hh⟩ := h
  obtain ⟨g1, g2, g3, g4, g5, g6⟩ := fsz_of hs
  refine ⟨(w / 2).toNat, (ht / 4).toNat, by omega, by omega, ?_⟩
  obtain ⟨V, hV⟩ : ∃ V : Nat, (w / 2).toNat = V := ⟨_, rfl⟩
  obtain ⟨K, hK⟩ : ∃ K : Nat, (ht / 4).toNat = K := ⟨_, rfl⟩
  rw [hV, hK]
  have e1 : w = ((2 * V : Nat) : Int) := by omega
  have e2 : ht = ((4 * K : Nat) : Int) := by omega
  have e3 : 2 * K * (2 * (2 * V)) = 2 * V * (4 * K) := by rw [show 2 * (2 * V) = 4 * V by omega, Nat.mul_mul_mul_comm, Nat.mul_mul_mul_comm 2 V 4 K, Nat.mul_comm K V]
  have e4 : K * (2 * V) = V * (2 * K) := by rw [Nat.mul_comm K, Nat.mul_comm 2 V, Nat.mul_assoc]
  have d1 : w / 2 = (V : Int) := by omega
  have d2 : ht / 2 = ((2 * K : Nat) : Int) := by omega
  rw [d1, d2] at hu hv
  rw [e1, e2] at hy
  refine ⟨by omega, by omega, ?_, ?_, ?_⟩
  · rw [e3]; exact Int.ofNat_inj.1 (hy.trans (Int.natCast_mul _ _).symm)
  · rw [e4]; exact Int.ofNat_inj.1 (hu.trans (Int.natCast_mul _ _).symm)
  · rw [e4]; exact Int.ofNat_inj.1 (hv.trans (Int.natCast_mul _ _).symm)
theorem fieldOf_fr4 (V K P : Nat) (y u v : List UInt8) : fieldOf (fr4 V K y u v) (P : Int) = fld V K P y u v := by
  have e1 : (((2 * V : Nat) : Int) / 2).toNat = V := by omega
  have e2 : (((4 * K : Nat) : Int) / 4).toNat = K := by omega
  simp only [fieldOf, fr4, e1, e2, Int.toNat_natCast]

set_option maxHeartbeats 1600000 in
set_option maxRecDepth 10000 in
theorem reference_ok (c : Cx) (pa fu fi : Fm) (dir sel : Int) (H : Heap) : CallOk Try.prog 10 [.agg (cxc c), .agg (fmc pa ++ (fmc fu ++ fmc fi)), .int .i64 dir, .int .i64 sel] H (.tup [.agg (fmc (refS c pa fu fi dir sel).1), .int .i64 (refS c pa fu fi dir sel).2]) H := by
  generalize hr : refS c pa fu fi dir sel = r
  have vc := fun H => vcx_ok c H
  have fc := fun H => fcx_ok c H
  have pc := fun H => pcx_ok c H
  obtain ⟨t, s, i, n⟩ := c
  obtain ⟨w1, h1, y1, u1, v1⟩ := pa
  obtain ⟨w2, h2, y2, u2, v2⟩ := fu
  obtain ⟨w3, h3, y3, u3, v3⟩ := fi
  simp only [fmc, List.cons_append, List.nil_append]
  refine CallOk.body (F0 := [(0, .agg [.int .i64 t, .int .i64 s, .bool i, .bool n]), (1, .agg [.int .i64 w1, .int .i64 h1, .slice (bs y1) y1.length false, .slice (bs u1) u1.length false, .slice (bs v1) v1.length false, .int .i64 w2, .int .i64 h2, .slice (bs y2) y2.length false, .slice (bs u2) u2.length false, .slice (bs v2) v2.length false, .int .i64 w3, .int .i64 h3, .slice (bs y3) y3.length false, .slice (bs u3) u3.length false, .slice (bs v3) v3.length false]), (2, .int .i64 dir), (3, .int .i64 sel)]) Try.func10 rfl Try.ntmps10 Try.results10 rfl (by kernel_rfl) rfl ?_
  (repeat refine PW.seq ?_); refine PW.rg rfl fun K hK => ?_; simp (disch := omega) only [go_sem, ↓reduceIte, reduceCtorEq, pappend, plen]; refine hK _ _ ?_; clear hK K
  (repeat refine PW.seq ?_)
  refine PW.rgv (P := Try.prog) [2, 3, 4, 5, 8] 34 (.bool (badA ⟨t, s, i, n⟩ dir sel)) ?_ ?_ ?_
  · rfl
  · cases hv : vcx ⟨t, s, i, n⟩ <;> cases hf : fcx ⟨t, s, i, n⟩
    all_goals (rw [hv] at vc; rw [hf] at fc; simp (disch := omega) only [go_sem, ↓reduceIte, reduceCtorEq, pappend, plen]; (repeat' (first | ((first | refine VO_cond (fun h => ?_) (fun h => ?_) | refine VOd_cond (fun h => ?_) (fun h => ?_) | refine VOg_cond (fun h => ?_) (fun h => ?_) | refine And.intro (fun h => ?_) (fun h => ?_)) <;> (try simp only [Bool.not_eq_true', Bool.not_eq_false', decide_eq_true_eq, decide_eq_false_iff_not] at h) <;> simp (disch := omega) only [go_sem, ↓reduceIte, reduceCtorEq, pappend, plen, h]) | (refine VCx.call (vc _) rfl ?_; simp (disch := omega) only [go_sem, ↓reduceIte, reduceCtorEq, pappend, plen]) | (refine VCx.call (fc _) rfl ?_; simp (disch := omega) only [go_sem, ↓reduceIte, reduceCtorEq, pappend, plen]) | (refine VCy.call (vc _) rfl ?_; simp (disch := omega) only [go_sem, ↓reduceIte, reduceCtorEq, pappend, plen]) | (refine VCy.call (fc _) rfl ?_; simp (disch := omega) only [go_sem, ↓reduceIte, reduceCtorEq, pappend, plen]) | (refine VCz.call (fun _ => vc _) rfl ?_; simp (disch := omega) only [go_sem, ↓reduceIte, reduceCtorEq, pappend, plen]) | (refine VCz.call (fun _ => fc _) rfl ?_; simp (disch := omega) only [go_sem, ↓reduceIte, reduceCtorEq, pappend, plen]))))
    all_goals (clear vc fc pc hr; (simp_all [badA, slot, Nat.beq] <;> first | rfl | omega | (rw [Bool.eq_iff_iff]; simp; done) | (rw [Bool.eq_iff_iff]; simp; omega)))
  (repeat refine PW.seq ?_); refine PW.cond (t := _) rfl (fun h => ?_) (fun h => ?_)
  · have hb : badA ⟨t, s, i, n⟩ dir sel = true := h
    (repeat refine PW.seq ?_); refine PW.rg rfl fun K hK => ?_; simp (disch := omega) only [go_sem, ↓reduceIte, reduceCtorEq, pappend, plen]; refine hK _ _ ?_; clear hK K
    refine PW.ret ⟨.tup [.agg [.int .i64 0, .int .i64 0, .slice [] 0 true, .slice [] 0 true, .slice [] 0 true], .int .i64 1], by simp (disch := omega) only [go_sem, ↓reduceIte, reduceCtorEq, pappend, plen, presults, presult, List.mapM_cons, List.mapM_nil, Option.pure_def, Option.bind_eq_bind, Option.bind_some, Array.toList], ?_⟩
    rw [← hr, refS, if_pos hb]
    exact Fin.base (fz0 _ _ _)
  have hb : badA ⟨t, s, i, n⟩ dir sel = false := h
  refine PW.skip ?_
  (repeat refine PW.seq ?_); refine PW.drawg mix (by kernel_rfl) fun K hK => ?_; simp (disch := omega) only [go_sem, ↓reduceIte, reduceCtorEq, pappend, plen]; refine VCz.call (fun _ => fc _) rfl ?_; simp (disch := omega) only [go_sem, ↓reduceIte, reduceCtorEq, pappend, plen]; refine hK _ _ ?_; clear hK K
  have hr2 : lastF (pickF ⟨t, s, i, n⟩ ⟨w1, h1, y1, u1, v1⟩ ⟨w2, h2, y2, u2, v2⟩ ⟨w3, h3, y3, u3, v3⟩ dir sel).1 (pickF ⟨t, s, i, n⟩ ⟨w1, h1, y1, u1, v1⟩ ⟨w2, h2, y2, u2, v2⟩ ⟨w3, h3, y3, u3, v3⟩ dir sel).2 sel = r := by rw [← hr, refS, if_neg (by rw [hb]; simp)]
  have hwh : (pickF ⟨t, s, i, n⟩ ⟨w1, h1, y1, u1, v1⟩ ⟨w2, h2, y2, u2, v2⟩ ⟨w3, h3, y3, u3, v3⟩ dir sel).2 = false → sel = 0 ∨ sel = 1 := fun hw => by
    have hf : fcx ⟨t, s, i, n⟩ = true := by
      unfold pickF at hw
      split at hw
      · simpa using hw
      · split at hw
        · cases hw
        · simpa using hw
    rw [badA, hf] at hb
    simp at hb
    omega
  generalize hpk : pickF ⟨t, s, i, n⟩ ⟨w1, h1, y1, u1, v1⟩ ⟨w2, h2, y2, u2, v2⟩ ⟨w3, h3, y3, u3, v3⟩ dir sel = pk1 at hr2 hwh
  obtain ⟨⟨w, ht, y, u, v⟩, wh⟩ := pk1
  simp only at hr2 hwh
  refine PW.to [3, 8, 10, 11] [(3, .int .i64 sel), (8, .ptr (H.length + 2) 0 0), (10, .ptr (H.length + 3) 0 0), (11, .bool wh)] (H ++ [⟨33, 0, [.int .i64 t, .int .i64 s, .bool i, .bool n]⟩, ⟨28, 0, [.int .i64 w1, .int .i64 h1, .slice (bs y1) y1.length false, .slice (bs u1) u1.length false, .slice (bs v1) v1.length false, .int .i64 w2, .int .i64 h2, .slice (bs y2) y2.length false, .slice (bs u2) u2.length false, .slice (bs v2) v2.length false, .int .i64 w3, .int .i64 h3, .slice (bs y3) y3.length false, .slice (bs u3) u3.length false, .slice (bs v3) v3.length false]⟩, ⟨26, 0, [.int .i64 0, .int .i64 0, .slice [] 0 true, .slice [] 0 true, .slice [] 0 true]⟩, ⟨26, 0, [.int .i64 w, .int .i64 ht, .slice (bs y) y.length false, .slice (bs u) u.length false, .slice (bs v) v.length false]⟩]) ?_ ?_
  · clear hr2 hwh hr
    (repeat refine PW.seq ?_); refine PW.block ?_
    (repeat refine PW.seq ?_); refine PW.rg rfl fun K hK => ?_; simp (disch := omega) only [go_sem, ↓reduceIte, reduceCtorEq, pappend, plen]; refine hK _ _ ?_; clear hK K
    (repeat refine PW.seq ?_); refine PW.cond (t := _) rfl (fun h => ?_) (fun h => ?_)
    · have hd : dir = 1 := by simpa using h
      rw [pickF, if_pos hd] at hpk
      simp only [Prod.mk.injEq, Fm.mk.injEq] at hpk
      obtain ⟨⟨rfl, rfl, rfl, rfl, rfl⟩, rfl⟩ := hpk
      (repeat refine PW.seq ?_); refine PW.rg rfl fun K hK => ?_; simp (disch := omega) only [go_sem, ↓reduceIte, reduceCtorEq, pappend, plen]; refine hK _ _ ?_; clear hK K
      exact ⟨rfl, rfl⟩
    · have hd : dir ≠ 1 := by simpa using h
      rw [pickF, if_neg hd] at hpk
      (repeat refine PW.seq ?_)
      refine PW.rgv (P := Try.prog) [3, 5, 8, 10, 11] 46 (.bool (n && (decide (t = 2) && decide (sel ≠ pcx ⟨t, s, i, n⟩)))) ?_ ?_ ?_
      · rfl
      · simp (disch := omega) only [go_sem, ↓reduceIte, reduceCtorEq, pappend, plen]; (repeat' (first | ((first | refine VO_cond (fun h => ?_) (fun h => ?_) | refine VOd_cond (fun h => ?_) (fun h => ?_) | refine VOg_cond (fun h => ?_) (fun h => ?_) | refine And.intro (fun h => ?_) (fun h => ?_)) <;> (try simp only [Bool.not_eq_true', Bool.not_eq_false', decide_eq_true_eq, decide_eq_false_iff_not] at h) <;> simp (disch := omega) only [go_sem, ↓reduceIte, reduceCtorEq, pappend, plen, h]) | (refine VCx.call (pcx_ok ⟨_, _, _, _⟩ _) rfl ?_; simp (disch := omega) only [go_sem, ↓reduceIte, reduceCtorEq, pappend, plen]) | (refine VCy.call (pcx_ok ⟨_, _, _, _⟩ _) rfl ?_; simp (disch := omega) only [go_sem, ↓reduceIte, reduceCtorEq, pappend, plen]) | (refine VCz.call (fun _ => pcx_ok ⟨_, _, _, _⟩ _) rfl ?_; simp (disch := omega) only [go_sem, ↓reduceIte, reduceCtorEq, pappend, plen])))
        all_goals (clear vc fc pc hpk; first | (simp_all [slot, Nat.beq] <;> first | rfl | omega | (rw [Bool.eq_iff_iff]; simp; done) | (rw [Bool.eq_iff_iff]; simp; omega)) | (simp_all [pcx, slot, Nat.beq] <;> first | rfl | omega | (rw [Bool.eq_iff_iff]; simp; done) | (rw [Bool.eq_iff_iff]; simp; omega)))
      (repeat refine PW.seq ?_); refine PW.cond (t := _) rfl (fun h => ?_) (fun h => ?_)
      · rw [if_pos h] at hpk
        simp only [Prod.mk.injEq, Fm.mk.injEq] at hpk
        obtain ⟨⟨rfl, rfl, rfl, rfl, rfl⟩, rfl⟩ := hpk
        (repeat refine PW.seq ?_); refine PW.rg rfl fun K hK => ?_; simp (disch := omega) only [go_sem, ↓reduceIte, reduceCtorEq, pappend, plen]; refine hK _ _ ?_; clear hK K
        exact ⟨rfl, rfl⟩
      · rw [if_neg (by rw [h]; simp)] at hpk
        simp only [Prod.mk.injEq, Fm.mk.injEq] at hpk
        obtain ⟨⟨rfl, rfl, rfl, rfl, rfl⟩, rfl⟩ := hpk
        refine PW.skip ?_
        exact ⟨rfl, rfl⟩
  clear hpk hr hb vc fc pc
  (repeat refine PW.seq ?_); refine PW.rg rfl fun K hK => ?_; simp (disch := omega) only [go_sem, ↓reduceIte, reduceCtorEq, pappend, plen]; refine hK _ _ ?_; clear hK K
  (repeat refine PW.seq ?_); refine PW.cond (t := _) rfl (fun h => ?_) (fun h => ?_)
  · have hw0 : w = 0 := by simpa using h
    (repeat refine PW.seq ?_); refine PW.rg rfl fun K hK => ?_; simp (disch := omega) only [go_sem, ↓reduceIte, reduceCtorEq, pappend, plen]; refine hK _ _ ?_; clear hK K
    refine PW.ret ⟨.tup [.agg [.int .i64 0, .int .i64 0, .slice [] 0 true, .slice [] 0 true, .slice [] 0 true], .int .i64 6], by simp (disch := omega) only [go_sem, ↓reduceIte, reduceCtorEq, pappend, plen, presults, presult, List.mapM_cons, List.mapM_nil, Option.pure_def, Option.bind_eq_bind, Option.bind_some, Array.toList], ?_⟩
    rw [← hr2, lastF, if_pos hw0]
    exact Fin.base (fz0 _ _ _)
  have hw0 : w ≠ 0 := by simpa using h
  rw [lastF, if_neg (by exact hw0)] at hr2
  refine PW.skip ?_
  have va := fun H => valid_ok ⟨w, ht, y, u, v⟩ H
  (repeat refine PW.seq ?_)
  refine PW.rgv (P := Try.prog) [3, 8, 10, 11] 78 (.bool (!(fvd ⟨w, ht, y, u, v⟩) || (!wh && decide (ht % 32 ≠ 0)))) ?_ ?_ ?_
  · rfl
  · cases hv : fvd ⟨w, ht, y, u, v⟩
    · rw [hv] at va
      simp (disch := omega) only [go_sem, ↓reduceIte, reduceCtorEq, pappend, plen]; (repeat' (first | ((first | refine VO_cond (fun h => ?_) (fun h => ?_) | refine VOd_cond (fun h => ?_) (fun h => ?_) | refine VOg_cond (fun h => ?_) (fun h => ?_) | refine And.intro (fun h => ?_) (fun h => ?_)) <;> (try simp only [Bool.not_eq_true', Bool.not_eq_false', decide_eq_true_eq, decide_eq_false_iff_not] at h) <;> simp (disch := omega) only [go_sem, ↓reduceIte, reduceCtorEq, pappend, plen, h]) | (refine VCx.call (va _) rfl ?_; simp (disch := omega) only [go_sem, ↓reduceIte, reduceCtorEq, pappend, plen]) | (refine VCy.call (va _) rfl ?_; simp (disch := omega) only [go_sem, ↓reduceIte, reduceCtorEq, pappend, plen]) | (refine VCz.call (fun _ => va _) rfl ?_; simp (disch := omega) only [go_sem, ↓reduceIte, reduceCtorEq, pappend, plen])))
      all_goals (clear va hr2 hwh; (simp_all [slot, Nat.beq] <;> first | rfl | omega | (rw [Bool.eq_iff_iff]; simp; done) | (rw [Bool.eq_iff_iff]; simp; omega)))
    · rw [hv] at va
      have hpos : 0 ≤ ht := by
        simp only [fvd, fmd, Bool.and_eq_true] at hv
        have := fsz_of hv.1.1
        omega
      simp (disch := omega) only [go_sem, ↓reduceIte, reduceCtorEq, pappend, plen]; (repeat' (first | ((first | refine VO_cond (fun h => ?_) (fun h => ?_) | refine VOd_cond (fun h => ?_) (fun h => ?_) | refine VOg_cond (fun h => ?_) (fun h => ?_) | refine And.intro (fun h => ?_) (fun h => ?_)) <;> (try simp only [Bool.not_eq_true', Bool.not_eq_false', decide_eq_true_eq, decide_eq_false_iff_not] at h) <;> simp (disch := omega) only [go_sem, ↓reduceIte, reduceCtorEq, pappend, plen, tmod_pos, h]) | (refine VCx.call (va _) rfl ?_; simp (disch := omega) only [go_sem, ↓reduceIte, reduceCtorEq, pappend, plen, tmod_pos]) | (refine VCy.call (va _) rfl ?_; simp (disch := omega) only [go_sem, ↓reduceIte, reduceCtorEq, pappend, plen, tmod_pos]) | (refine VCz.call (fun _ => va _) rfl ?_; simp (disch := omega) only [go_sem, ↓reduceIte, reduceCtorEq, pappend, plen, tmod_pos])))
      all_goals (clear va hr2 hwh; (simp_all [slot, Nat.beq] <;> first | rfl | omega | (rw [Bool.eq_iff_iff]; simp; done) | (rw [Bool.eq_iff_iff]; simp; omega)))
  (repeat refine PW.seq ?_); refine PW.cond (t := _) rfl (fun h => ?_) (fun h => ?_)
  · have hq : (!(fvd ⟨w, ht, y, u, v⟩) || (!wh && decide (ht % 32 ≠ 0))) = true := h
    (repeat refine PW.seq ?_); refine PW.rg rfl fun K hK => ?_; simp (disch := omega) only [go_sem, ↓reduceIte, reduceCtorEq, pappend, plen]; refine hK _ _ ?_; clear hK K
    refine PW.ret ⟨.tup [.agg [.int .i64 0, .int .i64 0, .slice [] 0 true, .slice [] 0 true, .slice [] 0 true], .int .i64 1], by simp (disch := omega) only [go_sem, ↓reduceIte, reduceCtorEq, pappend, plen, presults, presult, List.mapM_cons, List.mapM_nil, Option.pure_def, Option.bind_eq_bind, Option.bind_some, Array.toList], ?_⟩
    rw [if_pos hq] at hr2
    rw [← hr2]
    exact Fin.base (fz0 _ _ _)
  have hq : (!(fvd ⟨w, ht, y, u, v⟩) || (!wh && decide (ht % 32 ≠ 0))) = false := h
  rw [if_neg (by rw [hq]; simp)] at hr2
  refine PW.skip ?_
  (repeat refine PW.seq ?_); refine PW.rg rfl fun K hK => ?_; simp (disch := omega) only [go_sem, ↓reduceIte, reduceCtorEq, pappend, plen]; refine hK _ _ ?_; clear hK K
  (repeat refine PW.seq ?_); refine PW.cond (t := _) rfl (fun h => ?_) (fun h => ?_)
  · subst h
    (repeat refine PW.seq ?_); refine PW.rg rfl fun K hK => ?_; simp (disch := omega) only [go_sem, ↓reduceIte, reduceCtorEq, pappend, plen]; refine hK _ _ ?_; clear hK K
    refine PW.ret ⟨.tup [.agg [.int .i64 w, .int .i64 ht, .slice (bs y) y.length false, .slice (bs u) u.length false, .slice (bs v) v.length false], .int .i64 0], by simp (disch := omega) only [go_sem, ↓reduceIte, reduceCtorEq, pappend, plen, presults, presult, List.mapM_cons, List.mapM_nil, Option.pure_def, Option.bind_eq_bind, Option.bind_some, Array.toList], ?_⟩
    rw [if_pos rfl] at hr2
    rw [← hr2]
    exact Fin.base (.id (fe_scoped _ _ _ _ _ _ _ _ _ _))
  · subst h
    refine PW.skip ?_
    have hq1 : fvd ⟨w, ht, y, u, v⟩ = true := by
      cases hv : fvd ⟨w, ht, y, u, v⟩ with
      | true => rfl
      | false => rw [hv] at hq; cases hq
    have hq2 : ht % 32 = 0 := by rw [hq1] at hq; simp at hq; omega
    obtain ⟨V, K, rfl, rfl, hok⟩ := fvd_fr4 hq1 hq2
    obtain ⟨P, hP, rfl⟩ : ∃ P : Nat, P ≤ 1 ∧ sel = (P : Int) := by
      rcases hwh rfl with e | e
      · exact ⟨0, by omega, by omega⟩
      · exact ⟨1, by omega, by omega⟩
    have fo := fun H => field_ok V K P y u v H hok hP
    have e1 := fieldOf_fr4 V K P y u v
    rw [if_neg (by simp)] at hr2
    have hr3 : r = (fld V K P y u v, 0) := by rw [← hr2, ← e1]; rfl
    rw [hr3]
    obtain ⟨g, hg⟩ : ∃ g, fld V K P y u v = g := ⟨_, rfl⟩
    rw [hg] at fo ⊢
    obtain ⟨a1, a2, a3, a4, a5⟩ := g
    simp only [fmc, fr4] at fo ⊢
    (repeat refine PW.seq ?_); refine PW.rg rfl fun K hK => ?_; simp (disch := omega) only [go_sem, ↓reduceIte, reduceCtorEq, pappend, plen]; refine VCx.call (fo _) rfl ?_; simp (disch := omega) only [go_sem, ↓reduceIte, reduceCtorEq, pappend, plen]; refine hK _ _ ?_; clear hK K
    refine PW.ret ⟨.tup [.agg [.int .i64 a1, .int .i64 a2, .slice (bs a3) a3.length false, .slice (bs a4) a4.length false, .slice (bs a5) a5.length false], .int .i64 0], by simp (disch := omega) only [go_sem, ↓reduceIte, reduceCtorEq, pappend, plen, presults, presult, List.mapM_cons, List.mapM_nil, Option.pure_def, Option.bind_eq_bind, Option.bind_some, Array.toList], ?_⟩
    exact Fin.base (.id (fe_scoped _ _ _ _ _ _ _ _ _ _))

end Go.Proofs.Ytooejnahjjmamaa.Sc
