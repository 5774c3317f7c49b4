/-
  A small program logic over abstract values: regions that are run in any order, of which whatever has an effect is ordered with everything else: they are evaluated in the order of the text. No condition. Program-independent.
-/
import Derived.Test.YtahomnplappbpaaGreatDoorPmZ
namespace Go.Proofs.YtahomnplappbpaaGreatDoor.Pm
set_option linter.all false
set_option linter.unusedVariables false
set_option linter.unusedSimpArgs false
open Go.RowKit

variable {P : Program} {C : Ctx} {H K : Heap} {w : World} {F : Fr} {a : Act} {N : Nat}

def noeffT (rs : List (Nat × Nat)) (o : Oper) : Bool := match resI rs o with | some _ => false | none => !isCall o.op && !eff o.op
def compatT (ds : List (Option Nat)) (rs : List (Nat × Nat)) (x o : Oper) : Bool := clear ds x o && clear ds o x && noeffT rs x && noeffT rs o
def ExT (P : Program) (all : List Oper) (ids : List Nat) (rs : List (Nat × Nat)) (o : Oper) (f : Nat → PV) (H : Heap) (v : PV) (H' : Heap) : Prop :=
  (want all f o = some false ∧ v = .tup [] ∧ H' = H) ∨ (want all f o = some true ∧ StI P ids rs o f H v H')
theorem ExT.congr {all : List Oper} {ids : List Nat} {rs : List (Nat × Nat)} {o : Oper} {f g : Nat → PV} {v : PV} {H' : Heap} (h : ∀ t ∈ reads (all.map (·.dst)) o, f t = g t) (he : ExT P all ids rs o f H v H') : ExT P all ids rs o g H v H' := by
  have e1 : want all f o = want all g o := want_congr fun t ht => h t (List.mem_append.2 (.inr ht))
  have e2 : ∀ x ∈ o.op.operands.toList, ev f x = ev g x := fun x hx => ev_congr fun t ht => h t (List.mem_append.2 (.inl (mem_tmps (ht ▸ hx))))
  unfold ExT StI at he ⊢
  simp only [← e1, ← pcallee_congr e2, ← popI_congr e2]
  exact he
theorem ExT.same {all : List Oper} {ids : List Nat} {rs : List (Nat × Nat)} {o : Oper} {f : Nat → PV} {v : PV} {H' : Heap} (hn : noeffT rs o = true) (he : ExT P all ids rs o f H v H') : H' = H := by
  rcases he with ⟨_, _, e⟩ | ⟨_, h⟩
  · exact e
  unfold noeffT at hn
  cases hr : resI rs o with
  | some p => rw [hr] at hn; cases hn
  | none =>
    rw [hr] at hn
    simp only [Bool.and_eq_true, Bool.not_eq_true'] at hn
    unfold StI at h
    rw [asked_call hn.1] at h
    dsimp only at h
    unfold popI at h
    rw [hr] at h
    exact pop_noeff hn.2 h
theorem swapT {all : List Oper} {ids : List Nat} {rs : List (Nat × Nat)} : SwapG (ExT P all ids rs) (compatT (all.map (·.dst)) rs) := by
  intro x o f H vx Hx v H1 hc hx ho
  unfold compatT at hc
  simp only [Bool.and_eq_true] at hc
  obtain ⟨⟨⟨c1, c2⟩, c3⟩, c4⟩ := hc
  obtain rfl := hx.same c3
  obtain rfl := ho.same c4
  exact ⟨H1, ho.congr fun t ht => upd_other (clear_reads c1 t ht), hx.congr fun t ht => (upd_other (clear_reads c2 t ht)).symm, upd_comm (f := f) (u := vx) (v := v) (clear_dst c1)⟩
theorem stepT {ops : Array Oper} {ids : List Nat} {rs : List (Nat × Nat)} : StepG P N ops (ExT P ops.toList ids rs) := by
  intro o f H v H' C a w hd hw hf he
  rcases he with ⟨h1, h2, h3⟩ | ⟨h1, h2⟩
  · have hwant := want_sound hf h1
    rw [Array.toArray_toList] at hwant
    exact .inl ⟨hwant, h2, h3⟩
  · have hwant := want_sound hf h1
    rw [Array.toArray_toList] at hwant
    exact .inr ⟨hwant, fun next Q hn => stI_sound hd hw hf h2 _ _ hn⟩
theorem VOi_runT {all : List Oper} {ids : List Nat} {rs : List (Nat × Nat)} {K : Fr → Heap → Prop} : ∀ (l : List Oper) (F : Fr) (H : Heap), VOi P false ids [] rs [] (all.map (·.dst)) l (some (F, H)) K → RunG (ExT P all ids rs) l (slot F) H (fun f H' => ∃ F', f = slot F' ∧ K F' H')
  | [], F, H, h => ⟨F, rfl, h⟩
  | o :: r, F, H, h => by
    simp only [VOi] at h
    have go : ∀ v H', ExT P all ids rs o (slot F) H v H' → VOi P false ids [] rs [] (all.map (·.dst)) r (some (put F o.dst v, H')) K → RunG (ExT P all ids rs) (o :: r) (slot F) H (fun f H' => ∃ F', f = slot F' ∧ K F' H') := fun v H' he hr => by
      refine ⟨v, H', he, ?_⟩
      rw [← get_put]
      exact VOi_runT r _ _ hr
    cases hc : isCall o.op with
    | false =>
      simp only [hc] at h
      unfold stpI at h
      split at h
      · rw [VOi_none] at h; exact h.elim
      · rename_i b hb
        cases b with
        | false => exact go _ _ (.inl ⟨asked_want all F o hb, rfl, rfl⟩) h
        | true =>
          simp only [cond_true, Bool.not_false, Bool.true_or] at h
          split at h
          · rename_i v H' hp
            exact go v H' (.inr ⟨asked_want all F o hb, by unfold StI; rw [asked_call hc]; exact hp⟩) h
          · rw [VOi_none] at h; exact h.elim
    | true =>
      simp only [hc] at h
      unfold VCi at h
      split at h
      · exact h.elim
      · rename_i b hb
        cases b with
        | false => exact go _ _ (.inl ⟨asked_want all F o hb, rfl, rfl⟩) (h.2 rfl)
        | true =>
          have h := h.1 rfl
          unfold VCj at h
          split at h
          · rename_i fn args hp
            obtain ⟨v, H', h1, h2⟩ := h
            exact go v H' (.inr ⟨asked_want all F o hb, by unfold StI; rw [hp]; exact h1⟩) h2
          · exact h.elim
/-- ████ A region in any order, in which effects are ordered. ████ -/
theorem PW.drawt {E : Env} {Q : Exit → Fr → Heap → Prop} {id : Nat} {ops : Array Oper} (ids : List Nat) (rs : List (Nat × Nat)) (hm : P.follows .mixedOrders = true) (hd : drawGs (compatT (ops.toList.map (·.dst)) rs) E.N ops.toList = true)
    (h : ∀ K : Fr → Heap → Prop, (∀ F' H', Q .normal F' H' → K F' H') → VOi P false ids [] rs [] (ops.toList.map (·.dst)) ops.toList (some (F, H)) K) : PW P E (.region id ops true) F H Q := fun hs C a w hdf hw hf => by
  refine wp_region_any hm ?_
  have hr := VOi_runT (P := P) _ _ _ (h (fun F' H' => Q .normal F' H') fun _ _ h => h)
  have hall : ∀ i, i < ops.toList.length → drawG (compatT (ops.toList.map (·.dst)) rs) (masks ops.toList) E.N ops.toList i = true := by
    intro i hi
    unfold drawGs at hd
    exact List.all_eq_true.1 hd i (List.mem_range.2 hi)
  refine any_gen (P := P) hall swapT stepT ops.size (Array.replicate ops.size false) (slot F) H C a w.drew (by simp) ?_ (by rw [left_all]; simp) (by rw [left_all, all_ops]; exact hr) hdf hw.drew hf ?_
  · intro i o ho hl j hj
    have hi : i < ops.size := (Array.getElem?_eq_some_iff.1 ho).1
    simp [Array.getD, hi] at hl
  · rintro C' f' H' a' w' p1 p2 p3 p4 p5 ⟨F', rfl, p6⟩
    exact ⟨C', F', H', p1.toN _, p2, p3, ((Below.refl C.B w).drew).trans p4, p5, p6⟩
/-- A call, in the order of the text. -/
theorem VCj.now {ids : List Nat} {fp : Fp} {rs : List (Nat × Nat)} {o : Oper} {K : Fr → Heap → Prop} {g : FuncId} {args : List PV} {v : PV} {H' : Heap} (h : CallOk P g args H v H') (hc : pcallee o.op (slot F) = some (g, args)) (hk : K (put F o.dst v) H') : VCj P false ids fp rs o F H K := by
  unfold VCj
  simp only [hc]
  exact ⟨v, H', h, hk⟩

end Go.Proofs.YtahomnplappbpaaGreatDoor.Pm
