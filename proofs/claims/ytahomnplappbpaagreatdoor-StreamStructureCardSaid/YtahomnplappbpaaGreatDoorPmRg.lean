/-
  A range over a function: regions by evaluation. No condition. Program-independent.
-/
import Derived.Test.YtahomnplappbpaaGreatDoorPmG
import Derived.Test.YtahomnplappbpaaGreatDoorPmRf
namespace Go.Proofs.YtahomnplappbpaaGreatDoor.Pm
set_option linter.all false
set_option linter.unusedVariables false
set_option linter.unusedSimpArgs false
open Go.RowKit

variable {P : Program} {H : Heap} {F : Fr}
theorem vops_mono {all : List Oper} {K K' : Fr → Heap → Prop} (hk : ∀ F H, K F H → K' F H) : ∀ (l : List Oper) (F : Fr) (H : Heap), vops P all l K F H → vops P all l K' F H
  | [], F, H, h => hk _ _ h
  | o :: r, F, H, h => by
    simp only [vops] at h ⊢
    split at h
    · rename_i b hb
      refine ⟨fun hb' => ?_, fun hb' => vops_mono hk r _ _ (h.2 hb')⟩
      have h1 := h.1 hb'
      split at h1
      · obtain ⟨R, h2, h3⟩ := h1
        exact ⟨R, h2, fun v H' hR => vops_mono hk r _ _ (h3 v H' hR)⟩
      · split at h1
        · exact vops_mono hk r _ _ h1
        · exact h1.elim
    · exact h.elim
section rules
variable {E : Env} {Q : Exit → Fr → Heap → Prop}
/-- At a call of what a loop has handed out. -/
def YQ (P : Program) (ds : List (Option Nat)) (o : Oper) (x : Operand) (xs : Array Operand) (rest : List Oper) (K : Fr → Heap → Prop) : Fr → Heap → Prop := fun F' H' =>
  asked ds F' o = some true ∧ ∃ v H'', YldOk P (ev (slot F') x) (xs.toList.map (ev (slot F'))) H' v H'' ∧ VO P ds rest (some (put F' o.dst v, H'')) K
theorem PW.ry {id : Nat} {ops : Array Oper} (n : Nat) {o : Oper} {x : Operand} {xs : Array Operand} {ts : Array TypeId} (hd : ops.toList.all (dstOk E.N) = true) (hnd : ops.toList.all noDefer = true) (hn : ops.toList.drop n = o :: ops.toList.drop (n + 1)) (ho : o.op = .call ⟨.value x, xs, ts⟩)
    (h : ∀ K : Fr → Heap → Prop, (∀ F' H', Q .normal F' H' → K F' H') → VO P (ops.toList.map (·.dst)) (ops.toList.take n) (some (F, H)) (YQ P (ops.toList.map (·.dst)) o x xs (ops.toList.drop (n + 1)) K)) :
    PW P E (.region id ops false) F H Q := by
  refine PW.region_y n hd hnd (vops_mono ?_ _ _ _ (VO_sound _ _ _ (h _ fun _ _ h => h)))
  rintro F' H' ⟨h1, v, H'', h2, h3⟩
  exact ⟨o, ops.toList.drop (n + 1), x, xs, ts, v, H'', hn, asked_want _ _ _ h1, ho, h2, VO_sound _ _ _ h3⟩
theorem PWr.rg {l id : Nat} {ops : Array Oper} (hd : ops.toList.all (dstOk E.N) = true) (hn : ops.toList.all noDefer = true) (lo : ∀ F H, ¬ Q .outgrown F H) (h : ∀ K : Fr → Heap → Prop, (∀ F' H', Q .normal F' H' → K F' H') → VO P (ops.toList.map (·.dst)) ops.toList (some (F, H)) K) :
    PWr P E l (.region id ops false) F H Q := PWr.region hd hn lo (VO_sound _ _ _ (h _ fun _ _ h => h))
theorem PWr.at {l : Nat} {c : Code} {F2 : Fr} {H2 : Heap} (ks : List Nat) (h : PWr P E l c F2 H2 Q) (hF : kp ks F = F2) (hH : H = H2) : PWr P E l c F H Q := PWr.keep ks (by rw [hF, hH]; exact h)
theorem PWr.mono {l : Nat} {c : Code} {Q' : Exit → Fr → Heap → Prop} (h : PWr P E l c F H Q) (hq : ∀ e F H, Q e F H → Q' e F H) : PWr P E l c F H Q' := fun hs C a w hd hw hf =>
  wpIn_mono (h hs C a w hd hw hf) fun _ _ _ ⟨C', F', H', q1, q2, q3, q4, q5, q6⟩ => ⟨C', F', H', q1, q2, q3, q4, q5, hq _ _ _ q6⟩
/-- One state behind the first part. -/
theorem PWr.seq_to {l : Nat} {x y : Code} (ks : List Nat) (F1 : Fr) (H1 : Heap) (hx : PWr P E l x F H (thenQ (fun F' H' => kp ks F' = F1 ∧ H' = H1) Q)) (hy : PWr P E l y F1 H1 Q) : PWr P E l (.seq x y) F H Q :=
  PWr.seq (hx.mono fun e F' H' hq => by
    cases e with
    | normal => obtain ⟨h1, h2⟩ := hq; subst h1; subst h2; exact hy.keep ks
    | _ => exact hq)
end rules
section rules
variable {E : Env} {D : List Deferred} {Q : Exit → List Deferred → Fr → Heap → Prop}
theorem PWM.rg {id : Nat} {ops : Array Oper} (hd : ops.toList.all (dstOk E.N) = true) (hn : ops.toList.all noDefer = true) (h : ∀ K : Fr → Heap → Prop, (∀ F' H', Q .normal D F' H' → K F' H') → VO P (ops.toList.map (·.dst)) ops.toList (some (F, H)) K) :
    PWM P E (.region id ops false) D F H Q := PWM.region hd hn (VO_sound _ _ _ (h _ fun _ _ h => h))
theorem PWM.at {c : Code} {F2 : Fr} {H2 : Heap} (ks : List Nat) (h : PWM P E c D F2 H2 Q) (hF : kp ks F = F2) (hH : H = H2) : PWM P E c D F H Q := PWM.keep ks (by rw [hF, hH]; exact h)
theorem PWM.view {c : Code} {F2 : Fr} {H2 : Heap} (hv : Vs E F H F2 H2) (h : PWM P E c D F2 H2 Q) : PWM P E c D F H Q := fun hs C a w hd hw hf => by
  obtain ⟨C2, g1, g2, g3⟩ := hv hs C a w hw hf
  exact wpIn_mono (h hs C2 a w hd g2 g3) fun _ _ _ hp => hp.trans g1 (.refl _ _)
end rules

end Go.Proofs.YtahomnplappbpaaGreatDoor.Pm
