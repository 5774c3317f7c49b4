/-
  Operations of a region, one by one; the first frame of a call. No condition. Program-independent.
-/
import Derived.Test.YtcabpncdgagihaaPmPy
namespace Go.Proofs.Ytcabpncdgagihaa.Pm
set_option linter.all false
set_option linter.unusedVariables false
set_option linter.unusedSimpArgs false
open Go.RowKit

variable {P : Program} {C : Ctx} {H : Heap} {w : World} {F : Fr} {a : Act} {N : Nat}

theorem wpL_op {all : Array Oper} {o : Oper} {rest : List Oper} {v : PV} {H' : Heap} {Q : Exit → Act → World → Prop} (hw : WRel C H w) (hf : FRel C N (slot F) a) (hd : dstOk N o = true) (hg : o.guard = none) (hp : pcallee o.op (slot F) = none) (he : pop P o.op (slot F) H = some (v, H'))
    (hn : ∀ C' u w', CLe C C' → WRel C' H' w' → Below C.B w w' → FRel C' N (slot (put F o.dst v)) (a.put o.dst u) → wpList P all Q rest (a.put o.dst u) w') : wpList P all Q (o :: rest) a w := by
  unfold wpList
  rw [if_pos (by simp [Region.wanted, hg])]
  left
  refine execR_sound hd hw hf (R := fun v' H'' => v' = v ∧ H'' = H') (by unfold ExecR; rw [hp]; exact ⟨v, H', he, rfl, rfl⟩) _ _ fun C' u w' v' H'' q0 q1 q2 q3 q4 => ?_
  obtain ⟨rfl, rfl⟩ := q0
  rw [← get_put] at q4
  exact hn C' u w' q1 q2 q3 q4
theorem wpL_val {all : Array Oper} {o : Oper} {rest : List Oper} {u : Value} {Q : Exit → Act → World → Prop} (hg : o.guard = none) (he : (execOp a.eval o).run P w = .ok (.value u) w) (hn : wpList P all Q rest (a.put o.dst u) w) : wpList P all Q (o :: rest) a w := by
  unfold wpList
  rw [if_pos (by simp [Region.wanted, hg])]
  left
  unfold Oper.wp
  rw [he, Oper.upon_value]
  exact hn
theorem frel_args {args : List PV} {us : List Value} (hargs : VRels C args us) (hn : args.length ≤ N) : FRel C N (slot (argFr args 0)) { tmps := us.toArray ++ Array.replicate (N - us.toArray.size) Go.undef, defers := [] } := by
  refine ⟨by simp [hargs.1]; omega, fun t => ?_⟩
  rw [get_argFr]
  simp only [Nat.zero_le, if_true, Nat.sub_zero]
  by_cases ht : t < args.length
  · have htu : t < us.length := by rw [hargs.1]; exact ht
    have e1 : args.getD t .undef = args[t] := by simp [List.getD, ht]
    have e2 : (us.toArray ++ Array.replicate (N - us.toArray.size) Go.undef).getD t Go.undef = us[t] := by
      rw [Array.getD_eq_getD_getElem?, Array.getElem?_append_left (by simpa using htu)]
      simp [htu]
    rw [e1, e2]
    exact hargs.2 t _ _ (List.getElem?_eq_getElem ht) (List.getElem?_eq_getElem htu)
  · have e1 : args.getD t .undef = .undef := by simp [List.getD, List.getElem?_eq_none (by omega : args.length ≤ t)]
    rw [e1]
    exact .undef _
/-- Own blocks are dropped. -/
theorem WRel.drop {A K : Heap} {C0 : Ctx} {w0 : World} (h0 : WRel C0 H w0) (hl : H.length = A.length) (hA : HSc A) (hle : CLe C0 C) (hw : WRel C (A ++ K) w) : ∃ C', CLe C0 C' ∧ WRel C' A w := by
  obtain ⟨g1, g2⟩ := hw.cutN (CutH.base hA)
  exact ⟨_, ((hle.toN _).trans (g1.less (m := H.length) (by omega))).full h0.lenv, g2⟩

theorem wpL_defer {all : Array Oper} {o : Oper} {rest : List Oper} {d : Deferred} {Q : Exit → Act → World → Prop} (hg : o.guard = none) (he : (execOp a.eval o).run P w = .ok (.defer d) w) (hn : wpList P all Q rest ({ a with defers := d :: a.defers }.put o.dst Go.undef) w) : wpList P all Q (o :: rest) a w := by
  unfold wpList
  rw [if_pos (by simp [Region.wanted, hg])]
  left
  unfold Oper.wp
  rw [he, Oper.upon_defer]
  exact hn
/-- A part of a body, walked by PW; what follows by hand. -/
theorem PW.hand {c : Code} {F1 : Fr} {H1 : Heap} {Q : Exit → Act → World → Prop} (ks : List Nat) (h : PW P ⟨N, H⟩ c F H (fun x F' H' => x = .normal ∧ kp ks F' = F1 ∧ H' = H1)) (hd : a.defers = []) (hw : WRel C H w) (hf : FRel C N (slot F) a)
    (hn : ∀ C' a' w', CLe C C' → a'.defers = [] → WRel C' H1 w' → Below C.B w w' → FRel C' N (slot F1) a' → Q .normal a' w') : c.wp P Q a w := by
  refine wp_mono (h hw.hsc C a w hd hw hf) ?_
  rintro x a' w' ⟨C', F', H', y1, y2, y3, y4, y5, rfl, rfl, rfl⟩
  exact hn C' a' w' (y1.full hw.lenv) y2 y3 y4 (y5.keep ks)

/-- The first n operations of a region; what follows by hand. -/
theorem wp_region_cut {id : Nat} {ops : Array Oper} {K : Fr → Heap → Prop} {Q : Exit → Act → World → Prop} (n : Nat) (hd : (ops.toList.take n).all (dstOk N) = true) (h : VO P (ops.toList.map (·.dst)) (ops.toList.take n) (some (F, H)) K) {D : List Deferred} (hD : a.defers = D) (hw : WRel C H w) (hf : FRel C N (slot F) a)
    (hn : ∀ C' F' H' a' w', CLe C C' → a'.defers = D → WRel C' H' w' → Below C.B w w' → FRel C' N (slot F') a' → K F' H' → wpList P ops Q (ops.toList.drop n) a' w') : (Code.region id ops false).wp P Q a w := by
  refine wp_region_list ?_
  have := vops_then (P := P) (all := ops.toList) (rest := ops.toList.drop n) (ops.toList.take n) F H hd (VO_sound _ _ _ h) C a w hD hw hf Q (fun C' F' H' a' w' p1 p2 p3 p4 p5 p6 => by
    simpa using hn C' F' H' a' w' p1 p2 p3 p4 p5 p6)
  rw [List.take_append_drop] at this
  simpa using this
theorem WRel.dropV {A K : Heap} {C0 : Ctx} {w0 : World} {v : PV} {u : Value} (h0 : WRel C0 H w0) (hl : H.length = A.length) (hA : HSc A) (hle : CLe C0 C) (hw : WRel C (A ++ K) w) (hv : VRel C v u) (hs : Scoped A.length v) : ∃ C', CLe C0 C' ∧ WRel C' A w ∧ VRel C' v u := by
  obtain ⟨g1, g2⟩ := hw.cutN (CutH.base hA)
  exact ⟨_, ((hle.toN _).trans (g1.less (m := H.length) (by omega))).full h0.lenv, g2, (Fz.id hs).sound hw hv⟩

end Go.Proofs.Ytcabpncdgagihaa.Pm
