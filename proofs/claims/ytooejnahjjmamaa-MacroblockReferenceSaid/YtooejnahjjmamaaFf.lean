/-
  The law MacroblockReference's contract.
-/
import Derived.Test.YtooejnahjjmamaaFe
import Derived.Test.YtooejnahjjmamaaAx
namespace Go.Proofs.Ytooejnahjjmamaa.Sc
set_option linter.all false
set_option linter.unusedVariables false
set_option linter.unusedSimpArgs false
open Pm Ty Go.RowKit

theorem pick_sel {c : Cx} {pa fu fi : Fm} {dir sel : Int} (hb : badA c dir sel = false) (hw : (pickF c pa fu fi dir sel).2 = false) : sel = 0 ∨ sel = 1 := by
  have hf : fcx c = true := by
    unfold pickF at hw
    split at hw
    · simpa using hw
    · split at hw
      · cases hw
      · simpa using hw
  rw [badA, hf] at hb
  simp at hb
  omega
def okl (p : List UInt8) : Prop := 1 ≤ p.length ∧ p.length ≤ 100000
theorem ref_len {c : Cx} {pa fu fi : Fm} {dir sel : Int} {f : Fm} (h : refS c pa fu fi dir sel = (f, 0)) : okl f.y ∧ okl f.u ∧ okl f.v := by
  unfold refS at h
  split at h
  · simp at h
  · rename_i hb
    have hb : badA c dir sel = false := by simpa using hb
    have hsel := pick_sel (pa := pa) (fu := fu) (fi := fi) hb
    generalize pickF c pa fu fi dir sel = pk1 at h hsel
    obtain ⟨⟨w, ht, y, u, v⟩, wh⟩ := pk1
    simp only at h hsel
    unfold lastF at h
    split at h
    · simp at h
    · split at h
      · simp at h
      · rename_i hq
        have hq : (!(fvd ⟨w, ht, y, u, v⟩) || (!wh && decide (ht % 32 ≠ 0))) = false := by simpa using hq
        have hq1 : fvd ⟨w, ht, y, u, v⟩ = true := by
          cases hv : fvd ⟨w, ht, y, u, v⟩ with
          | true => rfl
          | false => rw [hv] at hq; cases hq
        split at h
        · simp only [Prod.mk.injEq, and_true] at h
          subst h
          simp only [fvd, fmd, Bool.and_eq_true, decide_eq_true_eq] at hq1
          obtain ⟨⟨hs, hy, hu, hv⟩, _, _⟩ := hq1
          obtain ⟨g1, g2, g3, g4, g5, g6⟩ := fsz_of hs
          have m1 := mul_b (a := w) (b := ht) (by omega)
          have m2 := mul_b (a := w / 2) (b := ht / 2) (by omega)
          have p1 : 0 < w * ht := Int.mul_pos (by omega) (by omega)
          have p2 : 0 < w / 2 * (ht / 2) := Int.mul_pos (by omega) (by omega)
          refine ⟨⟨?_, ?_⟩, ⟨?_, ?_⟩, ⟨?_, ?_⟩⟩ <;> simp only <;> omega
        · rename_i hwh
          have hwh : wh = false := by simpa using hwh
          subst hwh
          have hq2 : ht % 32 = 0 := by rw [hq1] at hq; simp at hq; omega
          obtain ⟨V, K, rfl, rfl, hok⟩ := fvd_fr4 hq1 hq2
          obtain ⟨P, hP, rfl⟩ : ∃ P : Nat, P ≤ 1 ∧ sel = (P : Int) := by
            rcases hsel rfl with e | e
            · exact ⟨0, by omega, by omega⟩
            · exact ⟨1, by omega, by omega⟩
          have e1 : fieldOf ⟨((2 * V : Nat) : Int), ((4 * K : Nat) : Int), y, u, v⟩ (P : Int) = fld V K P y u v := fieldOf_fr4 V K P y u v
          rw [e1] at h
          simp only [Prod.mk.injEq, and_true] at h
          subst h
          obtain ⟨⟨v1, v2⟩, ⟨k1, k2⟩, hy, hu, hv⟩ := hok
          have ly := ctl_len y (P * (2 * V)) (2 * (2 * V)) (2 * V) (2 * K) (rows_fit _ _ _ hP _ hy)
          have lu := ctl_len u (P * V) (2 * V) V K (rows_fit _ _ _ hP _ hu)
          have lv := ctl_len v (P * V) (2 * V) V K (rows_fit _ _ _ hP _ hv)
          have b1 : 2 * K * (2 * V) ≤ 32 * 64 := Nat.mul_le_mul (by omega) (by omega)
          have b2 : K * V ≤ 16 * 32 := Nat.mul_le_mul (by omega) (by omega)
          have b3 : 0 < 2 * K * (2 * V) := Nat.mul_pos (by omega) (by omega)
          have b4 : 0 < K * V := Nat.mul_pos (by omega) (by omega)
          refine ⟨⟨?_, ?_⟩, ⟨?_, ?_⟩, ⟨?_, ?_⟩⟩ <;> simp only [fld, ly, lu, lv] <;> omega
theorem ref_bad {c : Cx} {pa fu fi : Fm} {dir sel : Int} {f : Fm} {e : Int} (h : refS c pa fu fi dir sel = (f, e)) (he : e ≠ 0) : f = f0 := by
  unfold refS lastF at h
  repeat' split at h
  all_goals (simp only [Prod.mk.injEq] at h; first | exact h.1.symm | exact absurd h.2.symm he)

set_option maxHeartbeats 1600000 in
set_option maxRecDepth 10000 in
theorem Reference_ok (c : Cx) (pa fu fi : Fm) (dir sel : Int) (H : Heap) : CallOk Try.prog 5 [.agg (cxc c), .agg (fmc pa ++ (fmc fu ++ fmc fi)), .int .i64 dir, .int .i64 sel] H (.tup [.agg (fmc (refS c pa fu fi dir sel).1), .int .i64 (refS c pa fu fi dir sel).2]) H := by
  have rc := fun H => reference_ok c pa fu fi dir sel H
  have hln := @ref_len c pa fu fi dir sel
  have hbd := @ref_bad c pa fu fi dir sel
  generalize refS c pa fu fi dir sel = r at rc hln hbd ⊢
  obtain ⟨⟨w, ht, y, u, v⟩, e⟩ := r
  obtain ⟨t, s, i, n⟩ := c
  obtain ⟨w1, h1, y1, u1, v1⟩ := pa
  obtain ⟨w2, h2, y2, u2, v2⟩ := fu
  obtain ⟨w3, h3, y3, u3, v3⟩ := fi
  simp only [fmc, List.cons_append, List.nil_append] at rc ⊢
  refine CallOk.body (F0 := [(0, .agg [.int .i64 t, .int .i64 s, .bool i, .bool n]), (1, .agg [.int .i64 w1, .int .i64 h1, .slice (bs y1) y1.length false, .slice (bs u1) u1.length false, .slice (bs v1) v1.length false, .int .i64 w2, .int .i64 h2, .slice (bs y2) y2.length false, .slice (bs u2) u2.length false, .slice (bs v2) v2.length false, .int .i64 w3, .int .i64 h3, .slice (bs y3) y3.length false, .slice (bs u3) u3.length false, .slice (bs v3) v3.length false]), (2, .int .i64 dir), (3, .int .i64 sel)]) Try.func5 rfl Try.ntmps5 Try.results5 rfl (by kernel_rfl) rfl ?_
  (repeat refine PW.seq ?_); refine PW.rg rfl fun K hK => ?_; simp (disch := omega) only [go_sem, ↓reduceIte, reduceCtorEq, pappend, plen]; refine hK _ _ ?_; clear hK K
  (repeat refine PW.seq ?_); refine PW.rg rfl fun K hK => ?_; simp (disch := omega) only [go_sem, ↓reduceIte, reduceCtorEq, pappend, plen]; refine VCx.call (rc _) rfl ?_; simp (disch := omega) only [go_sem, ↓reduceIte, reduceCtorEq, pappend, plen]; refine hK _ _ ?_; clear hK K
  (repeat refine PW.seq ?_); refine PW.rg rfl fun K hK => ?_; simp (disch := omega) only [go_sem, ↓reduceIte, reduceCtorEq, pappend, plen]; refine hK _ _ ?_; clear hK K
  (repeat refine PW.seq ?_); refine PW.cond (t := _) rfl (fun h => ?_) (fun h => ?_)
  · have he : e ≠ 0 := by simpa using h
    have := hbd rfl he
    simp only [f0, Fm.mk.injEq] at this
    obtain ⟨rfl, rfl, rfl, rfl, rfl⟩ := this
    (repeat refine PW.seq ?_); refine PW.rg rfl fun K hK => ?_; simp (disch := omega) only [go_sem, ↓reduceIte, reduceCtorEq, pappend, plen]; refine hK _ _ ?_; clear hK K
    refine PW.ret ⟨.tup [.agg [.int .i64 0, .int .i64 0, .slice [] 0 true, .slice [] 0 true, .slice [] 0 true], .int .i64 e], by simp (disch := omega) only [go_sem, ↓reduceIte, reduceCtorEq, pappend, plen, presults, presult, List.mapM_cons, List.mapM_nil, Option.pure_def, Option.bind_eq_bind, Option.bind_some, Array.toList], ?_⟩
    exact Fin.base (fz0 _ _ _)
  have he : e = 0 := by simpa using h
  subst he
  obtain ⟨l1, l2, l3⟩ := hln rfl
  have k1 := fun H => clone_ok y false H l1
  have k2 := fun H => clone_ok u false H l2
  have k3 := fun H => clone_ok v false H l3
  refine PW.skip ?_
  (repeat refine PW.seq ?_); refine PW.draw mix (by kernel_rfl) fun K hK => ?_; simp (disch := omega) only [go_sem, ↓reduceIte, reduceCtorEq, pappend, plen]
  (repeat' (first | ((first | refine VO_cond (fun h => ?_) (fun h => ?_) | refine VOd_cond (fun h => ?_) (fun h => ?_) | refine VOg_cond (fun h => ?_) (fun h => ?_) | refine And.intro (fun h => ?_) (fun h => ?_)) <;> (try simp only [Bool.not_eq_true', Bool.not_eq_false', decide_eq_true_eq, decide_eq_false_iff_not] at h) <;> simp (disch := omega) only [go_sem, ↓reduceIte, reduceCtorEq, pappend, plen, h]) | (refine VCx.call (k1 _) rfl ?_; simp (disch := omega) only [go_sem, ↓reduceIte, reduceCtorEq, pappend, plen]) | (refine VCx.call (k2 _) rfl ?_; simp (disch := omega) only [go_sem, ↓reduceIte, reduceCtorEq, pappend, plen]) | (refine VCx.call (k3 _) rfl ?_; simp (disch := omega) only [go_sem, ↓reduceIte, reduceCtorEq, pappend, plen]) | (refine VCy.call (k1 _) rfl ?_; simp (disch := omega) only [go_sem, ↓reduceIte, reduceCtorEq, pappend, plen]) | (refine VCy.call (k2 _) rfl ?_; simp (disch := omega) only [go_sem, ↓reduceIte, reduceCtorEq, pappend, plen]) | (refine VCy.call (k3 _) rfl ?_; simp (disch := omega) only [go_sem, ↓reduceIte, reduceCtorEq, pappend, plen]) | (refine VCz.call (fun _ => k1 _) rfl ?_; simp (disch := omega) only [go_sem, ↓reduceIte, reduceCtorEq, pappend, plen]) | (refine VCz.call (fun _ => k2 _) rfl ?_; simp (disch := omega) only [go_sem, ↓reduceIte, reduceCtorEq, pappend, plen]) | (refine VCz.call (fun _ => k3 _) rfl ?_; simp (disch := omega) only [go_sem, ↓reduceIte, reduceCtorEq, pappend, plen])))
  refine hK _ _ ?_; clear hK K
  refine PW.ret ⟨.tup [.agg [.int .i64 w, .int .i64 ht, .slice (bs y) y.length false, .slice (bs u) u.length false, .slice (bs v) v.length false], .int .i64 0], by simp (disch := omega) only [go_sem, ↓reduceIte, reduceCtorEq, pappend, plen, presults, presult, List.mapM_cons, List.mapM_nil, Option.pure_def, Option.bind_eq_bind, Option.bind_some, Array.toList], ?_⟩
  exact Fin.base (.id (fe_scoped _ _ _ _ _ _ _ _ _ _))

end Go.Proofs.Ytooejnahjjmamaa.Sc
