/-
  A region that builds a struct of one number and panics with it. No condition. Program-independent.
-/
import Derived.Test.YtcabpncdgagihaaPmPx
import Derived.WalkSmall
import Derived.Laws.Build
namespace Go.Proofs.Ytcabpncdgagihaa.Pm
set_option linter.all false
set_option linter.unusedVariables false
set_option linter.unusedSimpArgs false
open Go.RowKit

variable {P : Program} {C : Ctx} {H : Heap} {w : World} {F : Fr} {a : Act} {N : Nat}

/-- What it panics with. -/
def pnc (ty : TypeId) (k : IntKind) (e : Int) : List PanicEntry := [{ v := .iface ty (.agg #[.int k e]), recovered := false }]
theorem agg1_inv {C : Ctx} {k : IntKind} {e : Int} {u : Value} (h : VRel C (.agg [.int k e]) u) : u = .agg #[.int k e] := by
  cases h with
  | agg hl hc hR =>
    rename_i us
    match us, hl with
    | [y], _ =>
      have := hR 0 _ _ rfl rfl
      cases this
      rfl
section rules
variable {E : Env} {Q : Exit → Fr → Heap → Prop}
theorem PW.raise {id : Nat} {ops : Array Oper} (n : Nat) {s d : Nat} {ty : TypeId} {k : IntKind} {e : Int} (hd : (ops.toList.take n).all (dstOk E.N) = true) (hdN : d < E.N) (hty : P.concrete ty = true)
    (h : vops P ops.toList (ops.toList.take n) (fun F' H' => ∃ o1 o2 r, ops.toList.drop n = o1 :: o2 :: r ∧ o1.guard = none ∧ o2.guard = none ∧ o1.op = .makeInterface ty (.tmp s) ∧ o1.dst = some d ∧ o2.op = .panic (.tmp d) ∧ slot F' s = .agg [.int k e] ∧ Q (.panic (pnc ty k e)) (put F' (some d) .undef) H') F H) :
    PW P E (.region id ops false) F H Q := fun hs C a w hdf hw hf => by
  refine wp_region_list ?_
  have := vops_then (P := P) (all := ops.toList) (rest := ops.toList.drop n) (ops.toList.take n) F H hd h C a w hdf hw hf (Post E C w Q) (fun C' F' H' a' w' p1 p2 p3 p4 p5 p6 => by
    obtain ⟨o1, o2, r, e1, g1, g2, x1, d1, x2, hsl, hq⟩ := p6
    rw [e1]
    have hv := p5.2 s
    rw [hsl] at hv
    have hu := agg1_inv hv
    have hsz := p5.1
    have w1 : ∀ a0 : Act, Region.wanted o1 (yielded ops.toList.toArray a0.tmps) = true := fun a0 => by simp [Region.wanted, g1]
    have w2 : ∀ a0 : Act, Region.wanted o2 (yielded ops.toList.toArray a0.tmps) = true := fun a0 => by simp [Region.wanted, g2]
    have r1 : (execOp a'.eval o1).run P w' = .ok (.value (.iface ty (.agg #[.int k e]))) w' := by
      simp only [execOp, x1]
      have : a'.eval (.tmp s) = .agg #[.int k e] := hu
      rw [this]
      simp only [Sem.run_bind, run_makeInterface _ _ _ hty, Result.andThen_ok, Sem.run_pure]
    unfold wpList
    rw [if_pos (w1 _)]
    left
    unfold Oper.wp
    rw [r1, Oper.upon_value]
    unfold wpList
    rw [if_pos (w2 _)]
    left
    have hlt : d < a'.tmps.size := by omega
    have r2 : (execOp (a'.put o1.dst (.iface ty (.agg #[.int k e]))).eval o2).run P w' = .halt (.panic (.iface ty (.agg #[.int k e]))) w' := by
      simp only [execOp, x2]
      have : (a'.put o1.dst (.iface ty (.agg #[.int k e]))).eval (.tmp d) = .iface ty (.agg #[.int k e]) := by
        rw [d1]
        simp [Act.put, Act.eval, hlt]
      rw [this]
      simp only [Sem.run_bind, run_panic_iface, Result.andThen_halt]
    unfold Oper.wp
    rw [r2, Oper.upon_panic]
    have q4 := p5.put (some d) (fun t ht => by injection ht with ht; omega) (VRel.undef (C := C') (.iface ty (.agg #[.int k e])))
    rw [← get_put] at q4
    exact ⟨C', _, H', p1.toN _, by rw [d1]; simpa [Act.put] using p2, p3, p4, by rw [d1]; exact q4, hq⟩)
  rw [List.take_append_drop] at this
  simpa using this
theorem PW.raiseV {id : Nat} {ops : Array Oper} (n : Nat) {s d : Nat} {ty : TypeId} {k : IntKind} {e : Int} (hd : (ops.toList.take n).all (dstOk E.N) = true)
    (hs : ∃ o1 o2 r, ops.toList.drop n = o1 :: o2 :: r ∧ o1.guard = none ∧ o2.guard = none ∧ o1.op = .makeInterface ty (.tmp s) ∧ o1.dst = some d ∧ o2.op = .panic (.tmp d)) (hdN : d < E.N) (hty : P.concrete ty = true)
    (h : ∀ K : Fr → Heap → Prop, (∀ F' H', slot F' s = .agg [.int k e] → Q (.panic (pnc ty k e)) (put F' (some d) .undef) H' → K F' H') → VO P (ops.toList.map (·.dst)) (ops.toList.take n) (some (F, H)) K) : PW P E (.region id ops false) F H Q := by
  obtain ⟨o1, o2, r, e1, e2, e3, e4, e5, e6⟩ := hs
  exact PW.raise n hd hdN hty (VO_sound _ _ _ (h _ fun F' H' h1 h2 => ⟨o1, o2, r, e1, e2, e3, e4, e5, e6, h1, h2⟩))
/-- A region whose operation number n is a call that panics. -/
theorem PW.panV {id : Nat} {ops : Array Oper} (n : Nat) {o : Oper} (hd : (ops.toList.take n).all (dstOk E.N) = true) (hs : ∃ o' r, ops.toList.drop n = o' :: r ∧ (o' = o ∧ o'.guard = none))
    (h : ∀ K : Fr → Heap → Prop, (∀ F' H' g args ch H'', pcallee o.op (slot F') = some (g, args) → CallPan P g args H' ch H'' → Q (.panic ch) F' H'' → K F' H') → VO P (ops.toList.map (·.dst)) (ops.toList.take n) (some (F, H)) K) : PW P E (.region id ops false) F H Q := by
  obtain ⟨o', r, e1, rfl, e2⟩ := hs
  exact PW.region_pan n hd (VO_sound _ _ _ (h _ fun F' H' g args ch H'' h1 h2 h3 => ⟨o', r, g, args, ch, H'', e1, by unfold want; rw [e2], h1, h2, h3⟩))
end rules

end Go.Proofs.Ytcabpncdgagihaa.Pm
