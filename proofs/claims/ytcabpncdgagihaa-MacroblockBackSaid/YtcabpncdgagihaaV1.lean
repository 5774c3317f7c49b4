/-
  Parts of the proof, put together in one text. No condition.
-/
import Derived.Test.YtcabpncdgagihaaPmZ
import Derived.WalkSmall
import Derived.Laws.Build
import Derived.Test.YtcabpncdgagihaaRb
import Derived.Test.YtcabpncdgagihaaHb
import Derived.Defers
import Derived.Recover
import Derived.Test.YtcabpncdgagihaaGk
namespace Go.Proofs.Ytcabpncdgagihaa.Pm
set_option linter.all false
set_option linter.unusedVariables false
set_option linter.unusedSimpArgs false
open Go.RowKit

variable {P : Program} {C : Ctx} {H K : Heap} {w : World} {F : Fr} {a : Act} {N : Nat}

def noeffT (rs : List (Nat × Nat)) (o : Oper) : Bool := match resI rs o with | some _ => false | none => !isCall o.op && !eff o.op
def compatT (ds : List (Option Nat)) (rs : List (Nat × Nat)) (x o : Oper) : Bool := clear ds x o && clear ds o x && noeffT rs x && noeffT rs o
def ExT (P : Program) (all : List Oper) (ids : List Nat) (rs : List (Nat × Nat)) (o : Oper) (f : Nat → PV) (H : Heap) (v : PV) (H' : Heap) : Prop :=
  (want all f o = some false ∧ v = .tup [] ∧ H' = H) ∨ (want all f o = some true ∧ StI P ids rs o f H v H')
theorem ExT.congr {all : List Oper} {ids : List Nat} {rs : List (Nat × Nat)} {o : Oper} {f g : Nat → PV} {v : PV} {H' : Heap} (h : ∀ t ∈ reads (all.map (·.dst)) o, f t = g t) (he : ExT P all ids rs o f H v H') : ExT P all ids rs o g H v H' := by
  have e1 : want all f o = want all g o := want_congr fun t ht => h t (List.mem_append.2 (.inr ht))
  have e2 : ∀ x ∈ o.op.operands.toList, ev f x = ev g x := fun x hx => ev_congr fun t ht => h t (List.mem_append.2 (.inl (mem_tmps (ht ▸ hx))))
  unfold ExT StI at he ⊢
  simp only [← e1, ← pcallee_congr e2, ← popI_congr e2]
  exact he
theorem ExT.same {all : List Oper} {ids : List Nat} {rs : List (Nat × Nat)} {o : Oper} {f : Nat → PV} {v : PV} {H' : Heap} (hn : noeffT rs o = true) (he : ExT P all ids rs o f H v H') : H' = H := by
  rcases he with ⟨_, _, e⟩ | ⟨_, h⟩
  · exact e
  unfold noeffT at hn
  cases hr : resI rs o with
  | some p => rw [hr] at hn; cases hn
  | none =>
    rw [hr] at hn
    simp only [Bool.and_eq_true, Bool.not_eq_true'] at hn
    unfold StI at h
    rw [asked_call hn.1] at h
    dsimp only at h
    unfold popI at h
    rw [hr] at h
    exact pop_noeff hn.2 h
theorem swapT {all : List Oper} {ids : List Nat} {rs : List (Nat × Nat)} : SwapG (ExT P all ids rs) (compatT (all.map (·.dst)) rs) := by
  intro x o f H vx Hx v H1 hc hx ho
  unfold compatT at hc
  simp only [Bool.and_eq_true] at hc
  obtain ⟨⟨⟨c1, c2⟩, c3⟩, c4⟩ := hc
  obtain rfl := hx.same c3
  obtain rfl := ho.same c4
  exact ⟨H1, ho.congr fun t ht => upd_other (clear_reads c1 t ht), hx.congr fun t ht => (upd_other (clear_reads c2 t ht)).symm, upd_comm (f := f) (u := vx) (v := v) (clear_dst c1)⟩
theorem stepT {ops : Array Oper} {ids : List Nat} {rs : List (Nat × Nat)} : StepG P N ops (ExT P ops.toList ids rs) := by
  intro o f H v H' C a w hd hw hf he
  rcases he with ⟨h1, h2, h3⟩ | ⟨h1, h2⟩
  · have hwant := want_sound hf h1
    rw [Array.toArray_toList] at hwant
    exact .inl ⟨hwant, h2, h3⟩
  · have hwant := want_sound hf h1
    rw [Array.toArray_toList] at hwant
    exact .inr ⟨hwant, fun next Q hn => stI_sound hd hw hf h2 _ _ hn⟩
theorem VOi_runT {all : List Oper} {ids : List Nat} {rs : List (Nat × Nat)} {K : Fr → Heap → Prop} : ∀ (l : List Oper) (F : Fr) (H : Heap), VOi P false ids [] rs [] (all.map (·.dst)) l (some (F, H)) K → RunG (ExT P all ids rs) l (slot F) H (fun f H' => ∃ F', f = slot F' ∧ K F' H')
  | [], F, H, h => ⟨F, rfl, h⟩
  | o :: r, F, H, h => by
    simp only [VOi] at h
    have go : ∀ v H', ExT P all ids rs o (slot F) H v H' → VOi P false ids [] rs [] (all.map (·.dst)) r (some (put F o.dst v, H')) K → RunG (ExT P all ids rs) (o :: r) (slot F) H (fun f H' => ∃ F', f = slot F' ∧ K F' H') := fun v H' he hr => by
      refine ⟨v, H', he, ?_⟩
      rw [← get_put]
      exact VOi_runT r _ _ hr
    cases hc : isCall o.op with
    | false =>
      simp only [hc] at h
      unfold stpI at h
      split at h
      · rw [VOi_none] at h; exact h.elim
      · rename_i b hb
        cases b with
        | false => exact go _ _ (.inl ⟨asked_want all F o hb, rfl, rfl⟩) h
        | true =>
          simp only [cond_true, Bool.not_false, Bool.true_or] at h
          split at h
          · rename_i v H' hp
            exact go v H' (.inr ⟨asked_want all F o hb, by unfold StI; rw [asked_call hc]; exact hp⟩) h
          · rw [VOi_none] at h; exact h.elim
    | true =>
      simp only [hc] at h
      unfold VCi at h
      split at h
      · exact h.elim
      · rename_i b hb
        cases b with
        | false => exact go _ _ (.inl ⟨asked_want all F o hb, rfl, rfl⟩) (h.2 rfl)
        | true =>
          have h := h.1 rfl
          unfold VCj at h
          split at h
          · rename_i fn args hp
            obtain ⟨v, H', h1, h2⟩ := h
            exact go v H' (.inr ⟨asked_want all F o hb, by unfold StI; rw [hp]; exact h1⟩) h2
          · exact h.elim
/-- ████ A region in any order, in which effects are ordered. ████ -/
theorem PW.drawt {E : Env} {Q : Exit → Fr → Heap → Prop} {id : Nat} {ops : Array Oper} (ids : List Nat) (rs : List (Nat × Nat)) (hm : P.follows .mixedOrders = true) (hd : drawGs (compatT (ops.toList.map (·.dst)) rs) E.N ops.toList = true)
    (h : ∀ K : Fr → Heap → Prop, (∀ F' H', Q .normal F' H' → K F' H') → VOi P false ids [] rs [] (ops.toList.map (·.dst)) ops.toList (some (F, H)) K) : PW P E (.region id ops true) F H Q := fun hs C a w hdf hw hf => by
  refine wp_region_any hm ?_
  have hr := VOi_runT (P := P) _ _ _ (h (fun F' H' => Q .normal F' H') fun _ _ h => h)
  have hall : ∀ i, i < ops.toList.length → drawG (compatT (ops.toList.map (·.dst)) rs) (masks ops.toList) E.N ops.toList i = true := by
    intro i hi
    unfold drawGs at hd
    exact List.all_eq_true.1 hd i (List.mem_range.2 hi)
  refine any_gen (P := P) hall swapT stepT ops.size (Array.replicate ops.size false) (slot F) H C a w.drew (by simp) ?_ (by rw [left_all]; simp) (by rw [left_all, all_ops]; exact hr) hdf hw.drew hf ?_
  · intro i o ho hl j hj
    have hi : i < ops.size := (Array.getElem?_eq_some_iff.1 ho).1
    simp [Array.getD, hi] at hl
  · rintro C' f' H' a' w' p1 p2 p3 p4 p5 ⟨F', rfl, p6⟩
    exact ⟨C', F', H', p1.toN _, p2, p3, ((Below.refl C.B w).drew).trans p4, p5, p6⟩
/-- A call, in the order of the text. -/
theorem VCj.now {ids : List Nat} {fp : Fp} {rs : List (Nat × Nat)} {o : Oper} {K : Fr → Heap → Prop} {g : FuncId} {args : List PV} {v : PV} {H' : Heap} (h : CallOk P g args H v H') (hc : pcallee o.op (slot F) = some (g, args)) (hk : K (put F o.dst v) H') : VCj P false ids fp rs o F H K := by
  unfold VCj
  simp only [hc]
  exact ⟨v, H', h, hk⟩

end Go.Proofs.Ytcabpncdgagihaa.Pm

namespace Go.Proofs.Ytcabpncdgagihaa.Pm
set_option linter.all false
set_option linter.unusedVariables false
set_option linter.unusedSimpArgs false
open Go.RowKit

variable {P : Program} {C : Ctx} {H : Heap} {w : World} {F : Fr} {a : Act} {N : Nat}

/-- Called with 'args' over H, function f panics with the chain ch and leaves H'. -/
def CallPan (P : Program) (f : FuncId) (args : List PV) (H : Heap) (ch : List PanicEntry) (H' : Heap) : Prop :=
  callable P f = true ∧ ∀ (C : Ctx) (us : List Value) (w : World), WRel C H w → VRels C args us →
    Calls P f us.toArray w fun e w' => ∃ C', CLe C C' ∧ WRel C' H' w' ∧ Below C.B w w' ∧ e = .panicked ch

/-- The first operations of a region by vops, the others as one likes. -/
theorem vops_then {all : List Oper} {K : Fr → Heap → Prop} {D : List Deferred} {rest : List Oper} : ∀ (l : List Oper) (F : Fr) (H : Heap), l.all (dstOk N) = true → vops P all l K F H → ∀ (C : Ctx) (a : Act) (w : World), a.defers = D → WRel C H w → FRel C N (slot F) a →
    ∀ Q : Exit → Act → World → Prop, (∀ C' F' H' a' w', CLe C C' → a'.defers = D → WRel C' H' w' → Below C.B w w' → FRel C' N (slot F') a' → K F' H' → wpList P all.toArray Q rest a' w') → wpList P all.toArray Q (l ++ rest) a w
  | [], F, H, _, h, C, a, w, hd, hw, hf, Q, hQ => hQ C F H a w (.refl _) hd hw (.refl _ _) hf h
  | o :: r, F, H, hall, h, C, a, w, hd, hw, hf, Q, hQ => by
    simp only [List.all_cons, Bool.and_eq_true] at hall
    simp only [vops] at h
    rw [List.cons_append]
    split at h
    · rename_i b hb
      have hwant := want_sound hf hb
      unfold wpList
      cases b with
      | true =>
        rw [if_pos hwant]
        left
        have h1 := h.1 rfl
        have step : ∀ R, ExecR P o (slot F) H R → (∀ v H', R v H' → vops P all r K (put F o.dst v) H') → o.wp P a w (wpList P all.toArray Q (r ++ rest)) Q := fun R he hr => by
          refine execR_sound hall.1 hw hf he _ _ fun C' u w' v H' q0 q1 q2 q3 q4 => ?_
          rw [← get_put] at q4
          refine vops_then (D := D) (rest := rest) r _ _ hall.2 (hr v H' q0) C' _ w' (by cases ho : o.dst <;> simp [Act.put, hd]) q2 q4 Q ?_
          intro C'' F'' H'' a'' w'' p1 p2 p3 p4 p5 p6
          exact hQ C'' F'' H'' a'' w'' (q1.trans p1) p2 p3 (q3.trans (by rw [← q1.B]; exact p4)) p5 p6
        split at h1
        · rename_i g args hc
          obtain ⟨R, hcall, hr⟩ := h1
          exact step R (by unfold ExecR; rw [hc]; exact hcall) hr
        · rename_i hc
          split at h1
          · rename_i v H' hp
            exact step (fun v' H'' => v' = v ∧ H'' = H') (by unfold ExecR; rw [hc]; exact ⟨v, H', hp, rfl, rfl⟩) (fun v' H'' e => by rw [e.1, e.2]; exact h1)
          · exact h1.elim
      | false =>
        rw [if_neg (by rw [hwant]; simp)]
        have h2 := h.2 rfl
        have q4 := hf.put o.dst (dstOk_of hall.1) (VRel.undefV (C := C))
        rw [← get_put] at q4
        exact vops_then (D := D) (rest := rest) r _ _ hall.2 h2 C _ w (by cases ho : o.dst <;> simp [Act.put, hd]) hw q4 Q hQ
    · exact h.elim

theorem execPan_sound {o : Oper} {f : Nat → PV} {g : FuncId} {args : List PV} {ch : List PanicEntry} {H' : Heap} (hw : WRel C H w) (hf : FRel C N f a) (hc : pcallee o.op f = some (g, args)) (h : CallPan P g args H ch H')
    (next : Act → World → Prop) (Q : Exit → Act → World → Prop) (hn : ∀ C' w', CLe C C' → WRel C' H' w' → Below C.B w w' → FRel C' N f a → Q (.panic ch) a w') : o.wp P a w next Q := by
  unfold pcallee at hc
  split at hc
  · rename_i x xs ts ho
    split at hc
    · rename_i f' first captured hfv
      simp only [Option.some.injEq, Prod.mk.injEq] at hc
      obtain ⟨rfl, rfl⟩ := hc
      have hv := ev_rel hf x
      rw [hfv] at hv
      obtain ⟨us, ws, hl, hl', hR, hR', he⟩ : ∃ us ws, us.length = first.length ∧ ws.length = captured.length ∧ Rel C first us ∧ Rel C captured ws ∧ a.eval x = .func (.func f') us.toArray ws.toArray := by
        generalize a.eval x = q at hv
        cases hv with
        | func hl hl' hR hR' => exact ⟨_, _, hl, hl', hR, hR', rfl⟩
      obtain ⟨hal, har⟩ := evs_rel hf xs.toList
      have hrun : (execOp a.eval o).run P w = .ok (.enter f' (us ++ xs.toList.map a.eval ++ ws).toArray) w := by
        have e1 : us.toArray ++ xs.map a.eval ++ ws.toArray = (us ++ xs.toList.map a.eval ++ ws).toArray := by
          apply Array.ext'; simp
        simp only [execOp, ho, resolve, he, Deferred.ofValue, invoke, Sem.run_bind, Sem.run_pure, Result.andThen_ok, run_callFunc h.1, e1]
      unfold Oper.wp
      rw [hrun, Oper.upon_enter]
      refine (h.2 C _ w hw ⟨by simp [hl, hl'], Rel.append (by simp [hl]) (Rel.append hl hR har) hR'⟩).mono ?_
      rintro e w' ⟨C', q1, q2, q3, rfl⟩
      exact hn C' w' q1 q2 q3 (hf.mono q1)
    · cases hc
  · cases hc

section rules
variable {E : Env} {Q : Exit → Fr → Heap → Prop}

/-- A region whose operation number n is a call that panics. -/
theorem PW.region_pan {id : Nat} {ops : Array Oper} (n : Nat) (hd : (ops.toList.take n).all (dstOk E.N) = true)
    (h : vops P ops.toList (ops.toList.take n) (fun F' H' => ∃ o r g args ch H'', ops.toList.drop n = o :: r ∧ want ops.toList (slot F') o = some true ∧ pcallee o.op (slot F') = some (g, args) ∧ CallPan P g args H' ch H'' ∧ Q (.panic ch) F' H'') F H) :
    PW P E (.region id ops false) F H Q := fun hs C a w hdf hw hf => by
  refine wp_region_list ?_
  have := vops_then (P := P) (all := ops.toList) (rest := ops.toList.drop n) (ops.toList.take n) F H hd h C a w hdf hw hf (Post E C w Q) (fun C' F' H' a' w' p1 p2 p3 p4 p5 p6 => by
    obtain ⟨o, r, g, args, ch, H'', e1, e2, e3, e4, e5⟩ := p6
    rw [e1]
    unfold wpList
    rw [if_pos (want_sound p5 e2)]
    left
    exact execPan_sound p3 p5 e3 e4 _ _ fun C'' w'' r1 r2 r3 r4 => ⟨C'', F', H'', (p1.trans r1).toN _, p2, r2, p4.trans (by rw [← p1.B]; exact r3), r4, e5⟩)
  rw [List.take_append_drop] at this
  simpa using this
end rules

/-- What is left of the heap when a body panics: all of it, or without its own blocks, or cut. -/
def POut (H : Heap) (Hout : Heap) (H' : Heap) : Prop := H' = Hout ∨ (∃ K, H' = H ++ K ∧ Hout = H) ∨ (HSc H → H.length ≤ Hout.length ∧ CutH H' Hout)
def panQ (ch : List PanicEntry) (H Hout : Heap) : Exit → Fr → Heap → Prop
  | .panic ch', _, H' => ch' = ch ∧ POut H Hout H'
  | _, _, _ => False

theorem CallPan.intro {f : FuncId} {fn : Func} {c : Code} {args : List PV} {ch : List PanicEntry} {Hout : Heap} (hf : P.funcs[f]? = some fn) (hb : fn.body = some c) (hcall : callable P f = true) (hn : args.length ≤ fn.ntmps)
    (h : PW P ⟨fn.ntmps, H⟩ c (argFr args 0) H (panQ ch H Hout)) : CallPan P f args H ch Hout := by
  refine ⟨hcall, fun C us w hw hargs => calls_of_wp hf hb ?_⟩
  have hfr : FRel C fn.ntmps (slot (argFr args 0)) { tmps := us.toArray ++ Array.replicate (fn.ntmps - us.toArray.size) Go.undef, defers := [] } := by
    refine ⟨by simp [hargs.1]; omega, fun t => ?_⟩
    rw [get_argFr]
    simp only [Nat.zero_le, if_true, Nat.sub_zero]
    by_cases ht : t < args.length
    · have htu : t < us.length := by rw [hargs.1]; exact ht
      have e1 : args.getD t .undef = args[t] := by simp [List.getD, ht]
      have e2 : (us.toArray ++ Array.replicate (fn.ntmps - us.toArray.size) Go.undef).getD t Go.undef = us[t] := by
        rw [Array.getD_eq_getD_getElem?, Array.getElem?_append_left (by simpa using htu)]
        simp [htu]
      rw [e1, e2]
      exact hargs.2 t _ _ (List.getElem?_eq_getElem ht) (List.getElem?_eq_getElem htu)
    · have e1 : args.getD t .undef = .undef := by simp [List.getD, List.getElem?_eq_none (by omega : args.length ≤ t)]
      rw [e1]
      exact .undef _
  refine wp_mono (h hw.hsc C _ w rfl hw hfr) ?_
  rintro e a' w' ⟨C', F', H', q1, q2, q3, q4, q5, q6⟩
  have q1' := q1.full hw.lenv
  cases e with
  | panic ch' =>
    obtain ⟨rfl, hp⟩ := q6
    refine ⟨q2, ?_⟩
    rcases hp with rfl | ⟨K, rfl, rfl⟩ | hp
    · exact ⟨C', q1', q3, q4, rfl⟩
    · obtain ⟨g1, g2⟩ := WRel.give hw q1' q3
      exact ⟨_, g1, g2, q4, rfl⟩
    · obtain ⟨hlen, hcut⟩ := hp hw.hsc
      obtain ⟨g1, g2⟩ := q3.cutN hcut
      exact ⟨_, (q1.trans (g1.less hlen)).full hw.lenv, g2, q4, rfl⟩
  | _ => exact q6.elim
theorem CallPan.body {f : FuncId} {fn : Func} {c : Code} {F0 : Fr} {args : List PV} {ch : List PanicEntry} {Hout : Heap} (hf : P.funcs[f]? = some fn) (hb : fn.body = some c) (hN : fn.ntmps = N) (hF : argFr args 0 = F0)
    (hcall : callable P f = true) (hn : Nat.ble args.length N = true) (h : PW P ⟨N, H⟩ c F0 H (panQ ch H Hout)) : CallPan P f args H ch Hout := by
  subst hN hF
  exact CallPan.intro hf hb hcall (Nat.le_of_ble_eq_true hn) h

end Go.Proofs.Ytcabpncdgagihaa.Pm

namespace Go.Proofs.Ytcabpncdgagihaa.Pm
set_option linter.all false
set_option linter.unusedVariables false
set_option linter.unusedSimpArgs false
open Go.RowKit

variable {P : Program} {C : Ctx} {H : Heap} {w : World} {F : Fr} {a : Act} {N : Nat}

/-- What it panics with. -/
def pnc (ty : TypeId) (k : IntKind) (e : Int) : List PanicEntry := [{ v := .iface ty (.agg #[.int k e]), recovered := false }]
theorem agg1_inv {C : Ctx} {k : IntKind} {e : Int} {u : Value} (h : VRel C (.agg [.int k e]) u) : u = .agg #[.int k e] := by
  cases h with
  | agg hl hc hR =>
    rename_i us
    match us, hl with
    | [y], _ =>
      have := hR 0 _ _ rfl rfl
      cases this
      rfl
section rules
variable {E : Env} {Q : Exit → Fr → Heap → Prop}
theorem PW.raise {id : Nat} {ops : Array Oper} (n : Nat) {s d : Nat} {ty : TypeId} {k : IntKind} {e : Int} (hd : (ops.toList.take n).all (dstOk E.N) = true) (hdN : d < E.N) (hty : P.concrete ty = true)
    (h : vops P ops.toList (ops.toList.take n) (fun F' H' => ∃ o1 o2 r, ops.toList.drop n = o1 :: o2 :: r ∧ o1.guard = none ∧ o2.guard = none ∧ o1.op = .makeInterface ty (.tmp s) ∧ o1.dst = some d ∧ o2.op = .panic (.tmp d) ∧ slot F' s = .agg [.int k e] ∧ Q (.panic (pnc ty k e)) (put F' (some d) .undef) H') F H) :
    PW P E (.region id ops false) F H Q := fun hs C a w hdf hw hf => by
  refine wp_region_list ?_
  have := vops_then (P := P) (all := ops.toList) (rest := ops.toList.drop n) (ops.toList.take n) F H hd h C a w hdf hw hf (Post E C w Q) (fun C' F' H' a' w' p1 p2 p3 p4 p5 p6 => by
    obtain ⟨o1, o2, r, e1, g1, g2, x1, d1, x2, hsl, hq⟩ := p6
    rw [e1]
    have hv := p5.2 s
    rw [hsl] at hv
    have hu := agg1_inv hv
    have hsz := p5.1
    have w1 : ∀ a0 : Act, Region.wanted o1 (yielded ops.toList.toArray a0.tmps) = true := fun a0 => by simp [Region.wanted, g1]
    have w2 : ∀ a0 : Act, Region.wanted o2 (yielded ops.toList.toArray a0.tmps) = true := fun a0 => by simp [Region.wanted, g2]
    have r1 : (execOp a'.eval o1).run P w' = .ok (.value (.iface ty (.agg #[.int k e]))) w' := by
      simp only [execOp, x1]
      have : a'.eval (.tmp s) = .agg #[.int k e] := hu
      rw [this]
      simp only [Sem.run_bind, run_makeInterface _ _ _ hty, Result.andThen_ok, Sem.run_pure]
    unfold wpList
    rw [if_pos (w1 _)]
    left
    unfold Oper.wp
    rw [r1, Oper.upon_value]
    unfold wpList
    rw [if_pos (w2 _)]
    left
    have hlt : d < a'.tmps.size := by omega
    have r2 : (execOp (a'.put o1.dst (.iface ty (.agg #[.int k e]))).eval o2).run P w' = .halt (.panic (.iface ty (.agg #[.int k e]))) w' := by
      simp only [execOp, x2]
      have : (a'.put o1.dst (.iface ty (.agg #[.int k e]))).eval (.tmp d) = .iface ty (.agg #[.int k e]) := by
        rw [d1]
        simp [Act.put, Act.eval, hlt]
      rw [this]
      simp only [Sem.run_bind, run_panic_iface, Result.andThen_halt]
    unfold Oper.wp
    rw [r2, Oper.upon_panic]
    have q4 := p5.put (some d) (fun t ht => by injection ht with ht; omega) (VRel.undef (C := C') (.iface ty (.agg #[.int k e])))
    rw [← get_put] at q4
    exact ⟨C', _, H', p1.toN _, by rw [d1]; simpa [Act.put] using p2, p3, p4, by rw [d1]; exact q4, hq⟩)
  rw [List.take_append_drop] at this
  simpa using this
theorem PW.raiseV {id : Nat} {ops : Array Oper} (n : Nat) {s d : Nat} {ty : TypeId} {k : IntKind} {e : Int} (hd : (ops.toList.take n).all (dstOk E.N) = true)
    (hs : ∃ o1 o2 r, ops.toList.drop n = o1 :: o2 :: r ∧ o1.guard = none ∧ o2.guard = none ∧ o1.op = .makeInterface ty (.tmp s) ∧ o1.dst = some d ∧ o2.op = .panic (.tmp d)) (hdN : d < E.N) (hty : P.concrete ty = true)
    (h : ∀ K : Fr → Heap → Prop, (∀ F' H', slot F' s = .agg [.int k e] → Q (.panic (pnc ty k e)) (put F' (some d) .undef) H' → K F' H') → VO P (ops.toList.map (·.dst)) (ops.toList.take n) (some (F, H)) K) : PW P E (.region id ops false) F H Q := by
  obtain ⟨o1, o2, r, e1, e2, e3, e4, e5, e6⟩ := hs
  exact PW.raise n hd hdN hty (VO_sound _ _ _ (h _ fun F' H' h1 h2 => ⟨o1, o2, r, e1, e2, e3, e4, e5, e6, h1, h2⟩))
/-- A region whose operation number n is a call that panics. -/
theorem PW.panV {id : Nat} {ops : Array Oper} (n : Nat) {o : Oper} (hd : (ops.toList.take n).all (dstOk E.N) = true) (hs : ∃ o' r, ops.toList.drop n = o' :: r ∧ (o' = o ∧ o'.guard = none))
    (h : ∀ K : Fr → Heap → Prop, (∀ F' H' g args ch H'', pcallee o.op (slot F') = some (g, args) → CallPan P g args H' ch H'' → Q (.panic ch) F' H'' → K F' H') → VO P (ops.toList.map (·.dst)) (ops.toList.take n) (some (F, H)) K) : PW P E (.region id ops false) F H Q := by
  obtain ⟨o', r, e1, rfl, e2⟩ := hs
  exact PW.region_pan n hd (VO_sound _ _ _ (h _ fun F' H' g args ch H'' h1 h2 h3 => ⟨o', r, g, args, ch, H'', e1, by unfold want; rw [e2], h1, h2, h3⟩))
end rules

end Go.Proofs.Ytcabpncdgagihaa.Pm

namespace Go.Proofs.Ytcabpncdgagihaa.Sc
set_option linter.all false
set_option linter.unusedVariables false
set_option linter.unusedSimpArgs false
open Pm Ty Go.RowKit

/-- The levels whose code begins at place a, from position p on. -/
def tkB (q : List UInt8) (n : Nat) : Nat → Nat → Nat → List Int → Rr (List Int)
  | 0, _, a, _ => .er 2 a
  | f + 1, p, a, l => (tkU q n a).bind fun v a1 => if v = 0 then .ok l a1 else if 64 < p + v then .er 2 a1 else
    (tkS q n a1).bind fun w a2 => if w = 0 then .er 2 a2 else if win w 4095 = false then .er 2 a2 else tkB q n f (p + v) a2 (l.set (p + v - 1) w)
def z64 : List Int := List.replicate 64 0
def tkBl (q : List UInt8) (n fr a : Nat) : Rr (List Int) := tkB q n 65 fr a z64
theorem tkB_b {q : List UInt8} {n : Nat} : ∀ (f p a : Nat) (l : List Int) {l' : List Int} {a' : Nat}, tkB q n f p a l = .ok l' a' → a ≤ n → a < a' ∧ a' ≤ n ∧ l'.length = l.length
  | 0, p, a, l, l', a', h, ha => by simp [tkB] at h
  | f + 1, p, a, l, l', a', h, ha => by
    simp only [tkB] at h
    cases hu : tkU q n a with
    | er e a1 => rw [hu] at h; cases h
    | ok v a1 =>
      have b1 := tkU_b hu ha
      rw [hu, Rr.bind_ok] at h
      split at h
      · injection h with h1 h2; subst h1 h2; exact ⟨b1.2.1, b1.2.2, rfl⟩
      · split at h
        · cases h
        · cases hv : tkS q n a1 with
          | er e a2 => rw [hv] at h; cases h
          | ok w a2 =>
            have b2 := tkS_b hv b1.2.2
            rw [hv, Rr.bind_ok] at h
            split at h
            · cases h
            · split at h
              · cases h
              · have := tkB_b f (p + v) a2 _ h b2.2.2
                rw [List.length_set] at this
                exact ⟨by omega, this.2.1, this.2.2⟩
theorem tkB_e {q : List UInt8} {n : Nat} : ∀ (f p a : Nat) (l : List Int) {e a' : Nat}, tkB q n f p a l = .er e a' → a ≤ n → a ≤ a' ∧ a' ≤ n ∧ e ≤ 3
  | 0, p, a, l, e, a', h, ha => by
    simp only [tkB] at h
    injection h with h1 h2
    omega
  | f + 1, p, a, l, e, a', h, ha => by
    simp only [tkB] at h
    cases hu : tkU q n a with
    | er e1 a1 =>
      rw [hu] at h
      have := tkU_e hu
      injection h with h1 h2
      omega
    | ok v a1 =>
      have b1 := tkU_b hu ha
      rw [hu, Rr.bind_ok] at h
      split at h
      · cases h
      · split at h
        · injection h with h1 h2; omega
        · cases hv : tkS q n a1 with
          | er e2 a2 =>
            rw [hv] at h
            have := tkS_e hv
            injection h with h1 h2
            omega
          | ok w a2 =>
            have b2 := tkS_b hv b1.2.2
            rw [hv, Rr.bind_ok] at h
            split at h
            · injection h with h1 h2; omega
            · split at h
              · injection h with h1 h2; omega
              · have := tkB_e f (p + v) a2 _ h b2.2.2
                omega

/-- What package block panics with. -/
def bpn (e : Nat) : List PanicEntry := pnc 175 .i64 ((e : Int) + 1)
theorem must_ok (v : Int) (H : Heap) : CallOk Try.prog 127 [.int .i64 v, .int .i64 0] H (.int .i64 v) H := by
  refine CallOk.body (F0 := [(0, .int .i64 v), (1, .int .i64 0)]) Try.func127 rfl Try.ntmps127 Try.results127 rfl (by kernel_rfl) rfl ?_
  (repeat' (first | refine PW.seq ?_ | refine PW.skip ?_ | refine PW.block ?_ | (refine PW.rg rfl fun K hK => ?_; simp (maxSteps := 3000000) (disch := omega) only [go_sem, ↓reduceIte, reduceCtorEq, pappend, plen]) | (refine PW.draw mix (by kernel_rfl) fun K hK => ?_; simp (maxSteps := 3000000) (disch := omega) only [go_sem, ↓reduceIte, reduceCtorEq, pappend, plen]) | (refine PW.drawg mix (by kernel_rfl) fun K hK => ?_; simp (maxSteps := 3000000) (disch := omega) only [go_sem, ↓reduceIte, reduceCtorEq, pappend, plen]) | (refine PW.drawt [] [] mix (by kernel_rfl) fun K hK => ?_; simp (maxSteps := 3000000) (disch := omega) only [go_sem, ↓reduceIte, reduceCtorEq, pappend, plen]) | ((first | refine VO_cond (fun h => ?_) (fun h => ?_) | refine VOd_cond (fun h => ?_) (fun h => ?_) | refine VOg_cond (fun h => ?_) (fun h => ?_) | refine VOh_cond (fun h => ?_) (fun h => ?_) | refine VOi_cond (fun h => ?_) (fun h => ?_) | refine And.intro (fun h => ?_) (fun h => ?_)) <;> (try simp only [Bool.not_eq_true', Bool.not_eq_false', decide_eq_true_eq, decide_eq_false_iff_not] at h) <;> simp (maxSteps := 3000000) (disch := omega) only [go_sem, ↓reduceIte, reduceCtorEq, pappend, plen, h]) | (refine hK _ _ ?_; clear hK K) | (refine PW.cond (t := _) rfl (fun h => ?_) (fun h => ?_) <;> (try (cases h; done)) <;> (try simp only [Bool.not_eq_true', Bool.not_eq_false', decide_eq_true_eq, decide_eq_false_iff_not] at h))))
  all_goals exact PW.ret ⟨_, rfl, Fin.now⟩
theorem must_pan (e : Nat) (H : Heap) : CallPan Try.prog 127 [.int .i64 0, .int .i64 ((e : Int) + 1)] H (bpn e) H := by
  have d : ((e : Int) + 1 != 0) = true := by simp; omega
  refine CallPan.body (F0 := [(0, .int .i64 0), (1, .int .i64 ((e : Int) + 1))]) Try.func127 rfl Try.ntmps127 rfl (by kernel_rfl) rfl ?_
  (repeat refine PW.seq ?_); refine PW.rg rfl fun K hK => ?_; simp (maxSteps := 3000000) (disch := omega) only [go_sem, ↓reduceIte, reduceCtorEq, pappend, plen]; refine hK _ _ ?_; clear hK K
  (repeat refine PW.seq ?_); refine PW.rg rfl fun K hK => ?_; simp (maxSteps := 3000000) (disch := omega) only [go_sem, ↓reduceIte, reduceCtorEq, pappend, plen, d]; refine hK _ _ ?_; clear hK K
  (repeat refine PW.seq ?_); refine PW.cond (t := _) rfl (fun h => ?_) (fun h => ?_)
  rotate_left
  · cases h
  (repeat refine PW.seq ?_); refine PW.raiseV (k := .i64) (e := (e : Int) + 1) 2 rfl ⟨_, _, _, rfl, rfl, rfl, rfl, rfl, rfl⟩ (Nat.le_of_ble_eq_true rfl) (by kernel_rfl) fun K hK => ?_; simp (maxSteps := 3000000) (disch := omega) only [go_sem, ↓reduceIte, reduceCtorEq, pappend, plen]; refine hK _ _ rfl ?_; clear hK K
  exact ⟨rfl, .inl rfl⟩

/-- What read has in memory. -/
def rdH (H : Heap) (i : Nat) (p : List UInt8) (n a : Nat) (l : List Int) : Heap := H.set i (rA p n a) ++ [⟨46, 0, is z64⟩, ⟨46, 0, is l⟩]
section
variable (H : Heap) (i : Nat) (p : List UInt8) (n a : Nat) (l : List Int)
theorem rdH_i (hi : i < H.length) : (rdH H i p n a l)[i]? = some (rA p n a) := by
  unfold rdH; rw [List.getElem?_append_left (by simpa using hi)]; simp [hi]
theorem rdH_si (hi : i < H.length) (a' : Nat) : (rdH H i p n a l).set i (rA p n a') = rdH H i p n a' l := by
  unfold rdH; rw [List.set_append_left _ _ (by simpa using hi), List.set_set]
theorem rdH_0 : (rdH H i p n a l)[H.length]? = some ⟨46, 0, is z64⟩ := by
  have := hp0 (H.set i (rA p n a)) [⟨46, 0, is l⟩] ⟨46, 0, is z64⟩
  rwa [List.length_set] at this
theorem rdH_1 : (rdH H i p n a l)[H.length + 1]? = some ⟨46, 0, is l⟩ := by
  have := hp1 (H.set i (rA p n a)) [] ⟨46, 0, is z64⟩ ⟨46, 0, is l⟩
  rwa [List.length_set] at this
theorem rdH_s1 (l' : List Int) : (rdH H i p n a l).set (H.length + 1) ⟨46, 0, is l'⟩ = rdH H i p n a l' := by
  have := hs1 (H.set i (rA p n a)) [] ⟨46, 0, is z64⟩ ⟨46, 0, is l⟩ ⟨46, 0, is l'⟩
  rwa [List.length_set] at this
theorem rdH_s0 (l' : List Int) : (rdH H i p n a l).set H.length ⟨46, 0, is l'⟩ = H.set i (rA p n a) ++ [⟨46, 0, is l'⟩, ⟨46, 0, is l⟩] := by
  have := hs0 (H.set i (rA p n a)) [⟨46, 0, is l⟩] ⟨46, 0, is z64⟩ ⟨46, 0, is l'⟩
  rwa [List.length_set] at this
end
theorem rd_out (H : Heap) (i : Nat) (p : List UInt8) (n a : Nat) (l : List Int) : POut H (H.set i (rA p n a)) (rdH H i p n a l) :=
  .inr (.inr fun h => ⟨by simp, CutH.base (hsc_rA _ _ _ _ _ h)⟩)

set_option maxHeartbeats 1000000 in
theorem read_pan (i : Nat) (p : List UInt8) (n a fr e a' : Nat) (H : Heap) (hA : H[i]? = some (rA p n a)) (ha : a ≤ n) (hn : n ≤ 8 * p.length) (hp : p.length ≤ 100000000) (hfr : fr ≤ 1) (hr : tkBl p n fr a = .er e a') :
    CallPan Try.prog 115 [.ptr i 0 0, .int .i64 (fr : Int)] H (bpn e) (H.set i (rA p n a')) := by
  have hi := (List.getElem?_eq_some_iff.1 hA).1
  have hself := set_self hA
  have al := fun x K => alw_ok x K
  have mo := fun v K => must_ok v K
  have mp := fun e K => must_pan e K
  refine CallPan.body (F0 := [(0, .ptr i 0 0), (1, .int .i64 (fr : Int))]) Try.func115 rfl Try.ntmps115 rfl (by kernel_rfl) rfl ?_
  (repeat refine PW.seq ?_); refine PW.rg rfl fun K hK => ?_; simp (maxSteps := 3000000) (disch := omega) only [go_sem, ↓reduceIte, reduceCtorEq, pappend, plen]; refine hK _ _ ?_; clear hK K
  (repeat refine PW.seq ?_); refine PW.rg rfl fun K hK => ?_; simp (maxSteps := 3000000) (disch := omega) only [go_sem, ↓reduceIte, reduceCtorEq, pappend, plen]; refine hK _ _ ?_; clear hK K
  (repeat refine PW.seq ?_); refine PW.rg rfl fun K hK => ?_; simp (maxSteps := 3000000) (disch := omega) only [go_sem, ↓reduceIte, reduceCtorEq, pappend, plen]; refine hK _ _ ?_; clear hK K
  (repeat refine PW.seq ?_); refine PW.block (PW.loop ?_)
  suffices hl : ∀ (f at' a : Nat) (l : List Int), at' ≤ 64 → 64 - at' < f → a ≤ n → l.length = 64 → tkB p n f at' a l = .er e a' → PL Try.prog _ _ [(0, .ptr i 0 0), (4, .ptr H.length 0 0), (5, .ptr (H.length + 1) 0 0), (6, .int .i64 ((at' : Int) - 1))] (rdH H i p n a l) _ by
    exact PL.at [0, 4, 5, 6] (hl 65 fr a z64 (by omega) (by omega) ha (by simp [z64]) hr) rfl (by unfold rdH; rw [hself]; rfl)
  clear hr hself hA ha
  intro f
  induction f with
  | zero => intro at' a l h1 h2; omega
  | succ f ih =>
    intro at' a l h1 h2 ha hll hr
    have tu := tku_ok i p n a (rdH H i p n a l) (rdH_i H i p n a l hi) ha hn hp
    simp only [tkB] at hr
    refine PL.round ?_; (repeat refine PW.seq ?_); refine PW.block ?_
    cases hu : tkU p n a with
    | er e1 a1 =>
      rw [hu, Rr.bind_er] at hr
      injection hr with r1 r2
      subst r1 r2
      rw [hu] at tu
      simp only [rvU, Rr.at, rdH_si _ _ _ _ _ _ hi] at tu
      (repeat refine PW.seq ?_); refine PW.panV 4 rfl ⟨_, _, rfl, rfl, rfl⟩ fun K hK => ?_; simp (maxSteps := 3000000) (disch := omega) only [go_sem, ↓reduceIte, reduceCtorEq, pappend, plen]
      refine VCx.call (tu) rfl ?_; simp (maxSteps := 3000000) (disch := omega) only [go_sem, ↓reduceIte, reduceCtorEq, pappend, plen]
      exact hK _ _ _ _ _ _ rfl (mp _ _) ⟨rfl, rd_out ..⟩
    | ok v a1 =>
      have b1 := tkU_b hu ha
      rw [hu, Rr.bind_ok] at hr
      rw [hu] at tu
      simp only [rvU, Rr.at, rdH_si _ _ _ _ _ _ hi] at tu
      have hv0 : ¬ v = 0 := fun e0 => by rw [if_pos e0] at hr; cases hr
      rw [if_neg hv0] at hr
      have d1 : ((v : Int) == 0) = false := by rw [beq_eq_false_iff_ne]; omega
      (repeat refine PW.seq ?_); refine PW.rg rfl fun K hK => ?_; simp (maxSteps := 3000000) (disch := omega) only [go_sem, ↓reduceIte, reduceCtorEq, pappend, plen]
      refine VCx.call (tu) rfl ?_; simp (maxSteps := 3000000) (disch := omega) only [go_sem, ↓reduceIte, reduceCtorEq, pappend, plen]
      refine VCx.call (mo _ _) rfl ?_; simp (maxSteps := 3000000) (disch := omega) only [go_sem, ↓reduceIte, reduceCtorEq, pappend, plen]; refine hK _ _ ?_; clear hK K
      (repeat refine PW.seq ?_); refine PW.rg rfl fun K hK => ?_; simp (maxSteps := 3000000) (disch := omega) only [go_sem, ↓reduceIte, reduceCtorEq, pappend, plen, d1]; refine hK _ _ ?_; clear hK K
      (repeat refine PW.seq ?_); refine PW.cond (t := _) rfl (fun h => ?_) (fun h => ?_)
      · cases h
      refine PW.skip ?_
      (repeat refine PW.seq ?_); refine PW.rg rfl fun K hK => ?_; simp (maxSteps := 3000000) (disch := omega) only [go_sem, ↓reduceIte, reduceCtorEq, pappend, plen]; refine hK _ _ ?_; clear hK K
      have e1 : (at' : Int) - 1 + (v : Int) = ((at' + v : Nat) : Int) - 1 := by omega
      by_cases h64 : 64 < at' + v
      · rw [if_pos h64] at hr
        injection hr with r1 r2
        subst r1 r2
        have d2 : decide ((64 : Int) ≤ ((at' + v : Nat) : Int) - 1) = true := decide_eq_true (by omega)
        (repeat refine PW.seq ?_); refine PW.rg rfl fun K hK => ?_; simp (maxSteps := 3000000) (disch := omega) only [go_sem, ↓reduceIte, reduceCtorEq, pappend, plen, e1, d2]; refine hK _ _ ?_; clear hK K
        (repeat refine PW.seq ?_); refine PW.cond (t := _) rfl (fun h => ?_) (fun h => ?_)
        rotate_left
        · cases h
        (repeat refine PW.seq ?_); refine PW.raiseV (k := .i64) (e := 3) 1 rfl ⟨_, _, _, rfl, rfl, rfl, rfl, rfl, rfl⟩ (Nat.le_of_ble_eq_true rfl) (by kernel_rfl) fun K hK => ?_; simp (maxSteps := 3000000) (disch := omega) only [go_sem, ↓reduceIte, reduceCtorEq, pappend, plen]; refine hK _ _ rfl ?_; clear hK K
        exact ⟨rfl, rd_out ..⟩
      rw [if_neg h64] at hr
      have d2 : decide ((64 : Int) ≤ ((at' + v : Nat) : Int) - 1) = false := decide_eq_false (by omega)
      (repeat refine PW.seq ?_); refine PW.rg rfl fun K hK => ?_; simp (maxSteps := 3000000) (disch := omega) only [go_sem, ↓reduceIte, reduceCtorEq, pappend, plen, e1, d2]; refine hK _ _ ?_; clear hK K
      (repeat refine PW.seq ?_); refine PW.cond (t := _) rfl (fun h => ?_) (fun h => ?_)
      · cases h
      refine PW.skip ?_
      have ts := tks_ok i p n a1 (rdH H i p n a1 l) (rdH_i H i p n a1 l hi) b1.2.2 hn hp
      cases hw : tkS p n a1 with
      | er e2 a2 =>
        rw [hw, Rr.bind_er] at hr
        injection hr with r1 r2
        subst r1 r2
        rw [hw] at ts
        simp only [rvS, Rr.at, rdH_si _ _ _ _ _ _ hi] at ts
        (repeat refine PW.seq ?_); refine PW.panV 5 rfl ⟨_, _, rfl, rfl, rfl⟩ fun K hK => ?_; simp (maxSteps := 3000000) (disch := omega) only [go_sem, ↓reduceIte, reduceCtorEq, pappend, plen]
        refine VCx.call (ts) rfl ?_; simp (maxSteps := 3000000) (disch := omega) only [go_sem, ↓reduceIte, reduceCtorEq, pappend, plen]
        exact hK _ _ _ _ _ _ rfl (mp _ _) ⟨rfl, rd_out ..⟩
      | ok w a2 =>
        have b2 := tkS_b hw b1.2.2
        rw [hw, Rr.bind_ok] at hr
        rw [hw] at ts
        simp only [rvS, Rr.at, rdH_si _ _ _ _ _ _ hi] at ts
        have e3 : ((at' + v : Nat) : Int) - 1 = ((at' + v - 1 : Nat) : Int) := by omega
        have hil : (is l).length = 64 := by rw [is_len, hll]
        (repeat refine PW.seq ?_); refine PW.rg rfl fun K hK => ?_; simp (maxSteps := 3000000) (disch := omega) only [go_sem, ↓reduceIte, reduceCtorEq, pappend, plen]
        refine VCx.call (ts) rfl ?_; simp (maxSteps := 3000000) (disch := omega) only [go_sem, ↓reduceIte, reduceCtorEq, pappend, plen]
        refine VCx.call (mo _ _) rfl ?_; simp (maxSteps := 3000000) (disch := omega) only [go_sem, ↓reduceIte, reduceCtorEq, pappend, plen, e1, e3, rdH_1, hil, is_set, rdH_s1]; refine hK _ _ ?_; clear hK K
        have hgl : (is (l.set (at' + v - 1) w))[at' + v - 1]? = some (.int .i64 w) := by
          rw [is_get _ _ (by rw [List.length_set]; omega)]
          simp [intAt, hll, show at' + v - 1 < 64 by omega]
        have hil2 : (is (l.set (at' + v - 1) w)).length = 64 := by rw [is_len, List.length_set, hll]
        by_cases hw0 : w = 0
        · rw [if_pos hw0] at hr
          injection hr with r1 r2
          subst r1 r2
          have d3 : (w == 0) = true := by simp [hw0]
          (repeat refine PW.seq ?_); refine PW.rg rfl fun K hK => ?_; simp (maxSteps := 3000000) (disch := omega) only [go_sem, ↓reduceIte, reduceCtorEq, pappend, plen, e1, e3, rdH_1, hil2, hgl, d3]; refine hK _ _ ?_; clear hK K
          (repeat refine PW.seq ?_); refine PW.cond (t := _) rfl (fun h => ?_) (fun h => ?_)
          rotate_left
          · cases h
          (repeat refine PW.seq ?_); refine PW.raiseV (k := .i64) (e := 3) 1 rfl ⟨_, _, _, rfl, rfl, rfl, rfl, rfl, rfl⟩ (Nat.le_of_ble_eq_true rfl) (by kernel_rfl) fun K hK => ?_; simp (maxSteps := 3000000) (disch := omega) only [go_sem, ↓reduceIte, reduceCtorEq, pappend, plen]; refine hK _ _ rfl ?_; clear hK K
          exact ⟨rfl, rd_out ..⟩
        · rw [if_neg hw0] at hr
          have d3 : (w == 0) = false := by simp [hw0]
          have alw := fun K => al w K
          cases hwn : win w 4095 with
          | false =>
            rw [hwn, if_pos rfl] at hr
            rw [hwn] at alw
            injection hr with r1 r2
            subst r1 r2
            (repeat refine PW.seq ?_); refine PW.rg rfl fun K hK => ?_; simp (maxSteps := 3000000) (disch := omega) only [go_sem, ↓reduceIte, reduceCtorEq, pappend, plen, e1, e3, rdH_1, hil2, hgl, d3]
            refine VCx.call (alw _) rfl ?_; simp (maxSteps := 3000000) (disch := omega) only [go_sem, ↓reduceIte, reduceCtorEq, pappend, plen]; refine hK _ _ ?_; clear hK K
            (repeat refine PW.seq ?_); refine PW.cond (t := _) rfl (fun h => ?_) (fun h => ?_)
            rotate_left
            · cases h
            (repeat refine PW.seq ?_); refine PW.raiseV (k := .i64) (e := 3) 1 rfl ⟨_, _, _, rfl, rfl, rfl, rfl, rfl, rfl⟩ (Nat.le_of_ble_eq_true rfl) (by kernel_rfl) fun K hK => ?_; simp (maxSteps := 3000000) (disch := omega) only [go_sem, ↓reduceIte, reduceCtorEq, pappend, plen]; refine hK _ _ rfl ?_; clear hK K
            exact ⟨rfl, rd_out ..⟩
          | true =>
            rw [hwn, if_neg (by decide)] at hr
            rw [hwn] at alw
            (repeat refine PW.seq ?_); refine PW.rg rfl fun K hK => ?_; simp (maxSteps := 3000000) (disch := omega) only [go_sem, ↓reduceIte, reduceCtorEq, pappend, plen, e1, e3, rdH_1, hil2, hgl, d3]
            refine VCx.call (alw _) rfl ?_; simp (maxSteps := 3000000) (disch := omega) only [go_sem, ↓reduceIte, reduceCtorEq, pappend, plen]; refine hK _ _ ?_; clear hK K
            (repeat refine PW.seq ?_); refine PW.cond (t := _) rfl (fun h => ?_) (fun h => ?_)
            · cases h
            refine PW.skip ?_
            exact PL.at [0, 4, 5, 6] (ih (at' + v) a2 _ (by omega) (by omega) b2.2.2 (by rw [List.length_set, hll]) hr) (by simp [kp, slot, Nat.beq]; omega) rfl

set_option maxHeartbeats 1000000 in
theorem read_ok (i : Nat) (p : List UInt8) (n a fr a' : Nat) (l' : List Int) (H : Heap) (hA : H[i]? = some (rA p n a)) (ha : a ≤ n) (hn : n ≤ 8 * p.length) (hp : p.length ≤ 100000000) (hfr : fr ≤ 1) (hr : tkBl p n fr a = .ok l' a') :
    CallOk Try.prog 115 [.ptr i 0 0, .int .i64 (fr : Int)] H (.agg (is l')) (H.set i (rA p n a')) := by
  have hi := (List.getElem?_eq_some_iff.1 hA).1
  have hself := set_self hA
  have al := fun x K => alw_ok x K
  have mo := fun v K => must_ok v K
  have mp := fun e K => must_pan e K
  refine CallOk.body (F0 := [(0, .ptr i 0 0), (1, .int .i64 (fr : Int))]) Try.func115 rfl Try.ntmps115 Try.results115 rfl (by kernel_rfl) rfl ?_
  (repeat refine PW.seq ?_); refine PW.rg rfl fun K hK => ?_; simp (maxSteps := 3000000) (disch := omega) only [go_sem, ↓reduceIte, reduceCtorEq, pappend, plen]; refine hK _ _ ?_; clear hK K
  (repeat refine PW.seq ?_); refine PW.rg rfl fun K hK => ?_; simp (maxSteps := 3000000) (disch := omega) only [go_sem, ↓reduceIte, reduceCtorEq, pappend, plen]; refine hK _ _ ?_; clear hK K
  (repeat refine PW.seq ?_); refine PW.rg rfl fun K hK => ?_; simp (maxSteps := 3000000) (disch := omega) only [go_sem, ↓reduceIte, reduceCtorEq, pappend, plen]; refine hK _ _ ?_; clear hK K
  (repeat refine PW.seq ?_); refine PW.block (PW.loop ?_)
  suffices hl : ∀ (f at' a : Nat) (l : List Int), at' ≤ 64 → 64 - at' < f → a ≤ n → l.length = 64 → tkB p n f at' a l = .ok l' a' → PL Try.prog _ _ [(0, .ptr i 0 0), (4, .ptr H.length 0 0), (5, .ptr (H.length + 1) 0 0), (6, .int .i64 ((at' : Int) - 1))] (rdH H i p n a l) _ by
    exact PL.at [0, 4, 5, 6] (hl 65 fr a z64 (by omega) (by omega) ha (by simp [z64]) hr) rfl (by unfold rdH; rw [hself]; rfl)
  clear hr hself hA ha
  intro f
  induction f with
  | zero => intro at' a l h1 h2; omega
  | succ f ih =>
    intro at' a l h1 h2 ha hll hr
    have tu := tku_ok i p n a (rdH H i p n a l) (rdH_i H i p n a l hi) ha hn hp
    simp only [tkB] at hr
    refine PL.round ?_; (repeat refine PW.seq ?_); refine PW.block ?_
    cases hu : tkU p n a with
    | er e1 a1 =>
      rw [hu, Rr.bind_er] at hr
      cases hr
    | ok v a1 =>
      have b1 := tkU_b hu ha
      rw [hu, Rr.bind_ok] at hr
      rw [hu] at tu
      simp only [rvU, Rr.at, rdH_si _ _ _ _ _ _ hi] at tu
      by_cases hv0 : v = 0
      · rw [if_pos hv0] at hr
        injection hr with r1 r2
        subst r1 r2
        have d1 : ((v : Int) == 0) = true := by simp [hv0]
        (repeat refine PW.seq ?_); refine PW.rg rfl fun K hK => ?_; simp (maxSteps := 3000000) (disch := omega) only [go_sem, ↓reduceIte, reduceCtorEq, pappend, plen]
        refine VCx.call (tu) rfl ?_; simp (maxSteps := 3000000) (disch := omega) only [go_sem, ↓reduceIte, reduceCtorEq, pappend, plen]
        refine VCx.call (mo _ _) rfl ?_; simp (maxSteps := 3000000) (disch := omega) only [go_sem, ↓reduceIte, reduceCtorEq, pappend, plen]; refine hK _ _ ?_; clear hK K
        (repeat refine PW.seq ?_); refine PW.rg rfl fun K hK => ?_; simp (maxSteps := 3000000) (disch := omega) only [go_sem, ↓reduceIte, reduceCtorEq, pappend, plen, d1]; refine hK _ _ ?_; clear hK K
        (repeat refine PW.seq ?_); refine PW.cond (t := _) rfl (fun h => ?_) (fun h => ?_)
        rotate_left
        · cases h
        have hil : (is l).length = 64 := by rw [is_len, hll]
        have hz : (is z64).length = 64 := by rw [is_len]; simp [z64]
        have htk : List.take 64 (is l) = is l := List.take_of_length_le (by omega)
        have hcel := is_cell l
        have hdz : List.drop 64 (is z64) = [] := List.drop_of_length_le (by omega)
        have hg0 : (H.set i (rA p n a1) ++ [⟨46, 0, is l⟩, ⟨46, 0, is l⟩])[H.length]? = some ⟨46, 0, is l⟩ := by
          have := hp0 (H.set i (rA p n a1)) [⟨46, 0, is l⟩] ⟨46, 0, is l⟩
          rwa [List.length_set] at this
        (repeat refine PW.seq ?_); refine PW.rg rfl fun K hK => ?_; simp (maxSteps := 3000000) (disch := omega) only [go_sem, ↓reduceIte, reduceCtorEq, pappend, plen, rdH_1, rdH_0, hil, hz, htk, hcel, hdz, rdH_s0]; refine hK _ _ ?_; clear hK K
        refine PW.ret ⟨.agg (is l), by simp (maxSteps := 3000000) (disch := omega) only [go_sem, ↓reduceIte, reduceCtorEq, pappend, plen, presults, presult, List.mapM_cons, List.mapM_nil, Option.pure_def, Option.bind_eq_bind, Option.bind_some, Array.toList, hg0, hil, htk], ?_⟩
        exact Fin.cut rfl (by simp) (hsc_rA _ _ _ _ _) (.id (ag_scoped (is_scoped _ _)))
      rw [if_neg hv0] at hr
      have d1 : ((v : Int) == 0) = false := by rw [beq_eq_false_iff_ne]; omega
      (repeat refine PW.seq ?_); refine PW.rg rfl fun K hK => ?_; simp (maxSteps := 3000000) (disch := omega) only [go_sem, ↓reduceIte, reduceCtorEq, pappend, plen]
      refine VCx.call (tu) rfl ?_; simp (maxSteps := 3000000) (disch := omega) only [go_sem, ↓reduceIte, reduceCtorEq, pappend, plen]
      refine VCx.call (mo _ _) rfl ?_; simp (maxSteps := 3000000) (disch := omega) only [go_sem, ↓reduceIte, reduceCtorEq, pappend, plen]; refine hK _ _ ?_; clear hK K
      (repeat refine PW.seq ?_); refine PW.rg rfl fun K hK => ?_; simp (maxSteps := 3000000) (disch := omega) only [go_sem, ↓reduceIte, reduceCtorEq, pappend, plen, d1]; refine hK _ _ ?_; clear hK K
      (repeat refine PW.seq ?_); refine PW.cond (t := _) rfl (fun h => ?_) (fun h => ?_)
      · cases h
      refine PW.skip ?_
      (repeat refine PW.seq ?_); refine PW.rg rfl fun K hK => ?_; simp (maxSteps := 3000000) (disch := omega) only [go_sem, ↓reduceIte, reduceCtorEq, pappend, plen]; refine hK _ _ ?_; clear hK K
      have e1 : (at' : Int) - 1 + (v : Int) = ((at' + v : Nat) : Int) - 1 := by omega
      by_cases h64 : 64 < at' + v
      · rw [if_pos h64] at hr
        cases hr
      rw [if_neg h64] at hr
      have d2 : decide ((64 : Int) ≤ ((at' + v : Nat) : Int) - 1) = false := decide_eq_false (by omega)
      (repeat refine PW.seq ?_); refine PW.rg rfl fun K hK => ?_; simp (maxSteps := 3000000) (disch := omega) only [go_sem, ↓reduceIte, reduceCtorEq, pappend, plen, e1, d2]; refine hK _ _ ?_; clear hK K
      (repeat refine PW.seq ?_); refine PW.cond (t := _) rfl (fun h => ?_) (fun h => ?_)
      · cases h
      refine PW.skip ?_
      have ts := tks_ok i p n a1 (rdH H i p n a1 l) (rdH_i H i p n a1 l hi) b1.2.2 hn hp
      cases hw : tkS p n a1 with
      | er e2 a2 =>
        rw [hw, Rr.bind_er] at hr
        cases hr
      | ok w a2 =>
        have b2 := tkS_b hw b1.2.2
        rw [hw, Rr.bind_ok] at hr
        rw [hw] at ts
        simp only [rvS, Rr.at, rdH_si _ _ _ _ _ _ hi] at ts
        have e3 : ((at' + v : Nat) : Int) - 1 = ((at' + v - 1 : Nat) : Int) := by omega
        have hil : (is l).length = 64 := by rw [is_len, hll]
        (repeat refine PW.seq ?_); refine PW.rg rfl fun K hK => ?_; simp (maxSteps := 3000000) (disch := omega) only [go_sem, ↓reduceIte, reduceCtorEq, pappend, plen]
        refine VCx.call (ts) rfl ?_; simp (maxSteps := 3000000) (disch := omega) only [go_sem, ↓reduceIte, reduceCtorEq, pappend, plen]
        refine VCx.call (mo _ _) rfl ?_; simp (maxSteps := 3000000) (disch := omega) only [go_sem, ↓reduceIte, reduceCtorEq, pappend, plen, e1, e3, rdH_1, hil, is_set, rdH_s1]; refine hK _ _ ?_; clear hK K
        have hgl : (is (l.set (at' + v - 1) w))[at' + v - 1]? = some (.int .i64 w) := by
          rw [is_get _ _ (by rw [List.length_set]; omega)]
          simp [intAt, hll, show at' + v - 1 < 64 by omega]
        have hil2 : (is (l.set (at' + v - 1) w)).length = 64 := by rw [is_len, List.length_set, hll]
        by_cases hw0 : w = 0
        · rw [if_pos hw0] at hr
          cases hr
        · rw [if_neg hw0] at hr
          have d3 : (w == 0) = false := by simp [hw0]
          have alw := fun K => al w K
          cases hwn : win w 4095 with
          | false =>
            rw [hwn, if_pos rfl] at hr
            cases hr
          | true =>
            rw [hwn, if_neg (by decide)] at hr
            rw [hwn] at alw
            (repeat refine PW.seq ?_); refine PW.rg rfl fun K hK => ?_; simp (maxSteps := 3000000) (disch := omega) only [go_sem, ↓reduceIte, reduceCtorEq, pappend, plen, e1, e3, rdH_1, hil2, hgl, d3]
            refine VCx.call (alw _) rfl ?_; simp (maxSteps := 3000000) (disch := omega) only [go_sem, ↓reduceIte, reduceCtorEq, pappend, plen]; refine hK _ _ ?_; clear hK K
            (repeat refine PW.seq ?_); refine PW.cond (t := _) rfl (fun h => ?_) (fun h => ?_)
            · cases h
            refine PW.skip ?_
            exact PL.at [0, 4, 5, 6] (ih (at' + v) a2 _ (by omega) (by omega) b2.2.2 (by rw [List.length_set, hll]) hr) (by simp [kp, slot, Nat.beq]; omega) rfl

end Go.Proofs.Ytcabpncdgagihaa.Sc

namespace Go.Proofs.Ytcabpncdgagihaa.Pm
set_option linter.all false
set_option linter.unusedVariables false
set_option linter.unusedSimpArgs false
open Go.RowKit

variable {P : Program} {C : Ctx} {H : Heap} {w : World} {F : Fr} {a : Act} {N : Nat}

theorem wpL_op {all : Array Oper} {o : Oper} {rest : List Oper} {v : PV} {H' : Heap} {Q : Exit → Act → World → Prop} (hw : WRel C H w) (hf : FRel C N (slot F) a) (hd : dstOk N o = true) (hg : o.guard = none) (hp : pcallee o.op (slot F) = none) (he : pop P o.op (slot F) H = some (v, H'))
    (hn : ∀ C' u w', CLe C C' → WRel C' H' w' → Below C.B w w' → FRel C' N (slot (put F o.dst v)) (a.put o.dst u) → wpList P all Q rest (a.put o.dst u) w') : wpList P all Q (o :: rest) a w := by
  unfold wpList
  rw [if_pos (by simp [Region.wanted, hg])]
  left
  refine execR_sound hd hw hf (R := fun v' H'' => v' = v ∧ H'' = H') (by unfold ExecR; rw [hp]; exact ⟨v, H', he, rfl, rfl⟩) _ _ fun C' u w' v' H'' q0 q1 q2 q3 q4 => ?_
  obtain ⟨rfl, rfl⟩ := q0
  rw [← get_put] at q4
  exact hn C' u w' q1 q2 q3 q4
theorem wpL_val {all : Array Oper} {o : Oper} {rest : List Oper} {u : Value} {Q : Exit → Act → World → Prop} (hg : o.guard = none) (he : (execOp a.eval o).run P w = .ok (.value u) w) (hn : wpList P all Q rest (a.put o.dst u) w) : wpList P all Q (o :: rest) a w := by
  unfold wpList
  rw [if_pos (by simp [Region.wanted, hg])]
  left
  unfold Oper.wp
  rw [he, Oper.upon_value]
  exact hn
theorem frel_args {args : List PV} {us : List Value} (hargs : VRels C args us) (hn : args.length ≤ N) : FRel C N (slot (argFr args 0)) { tmps := us.toArray ++ Array.replicate (N - us.toArray.size) Go.undef, defers := [] } := by
  refine ⟨by simp [hargs.1]; omega, fun t => ?_⟩
  rw [get_argFr]
  simp only [Nat.zero_le, if_true, Nat.sub_zero]
  by_cases ht : t < args.length
  · have htu : t < us.length := by rw [hargs.1]; exact ht
    have e1 : args.getD t .undef = args[t] := by simp [List.getD, ht]
    have e2 : (us.toArray ++ Array.replicate (N - us.toArray.size) Go.undef).getD t Go.undef = us[t] := by
      rw [Array.getD_eq_getD_getElem?, Array.getElem?_append_left (by simpa using htu)]
      simp [htu]
    rw [e1, e2]
    exact hargs.2 t _ _ (List.getElem?_eq_getElem ht) (List.getElem?_eq_getElem htu)
  · have e1 : args.getD t .undef = .undef := by simp [List.getD, List.getElem?_eq_none (by omega : args.length ≤ t)]
    rw [e1]
    exact .undef _
/-- Own blocks are dropped. -/
theorem WRel.drop {A K : Heap} {C0 : Ctx} {w0 : World} (h0 : WRel C0 H w0) (hl : H.length = A.length) (hA : HSc A) (hle : CLe C0 C) (hw : WRel C (A ++ K) w) : ∃ C', CLe C0 C' ∧ WRel C' A w := by
  obtain ⟨g1, g2⟩ := hw.cutN (CutH.base hA)
  exact ⟨_, ((hle.toN _).trans (g1.less (m := H.length) (by omega))).full h0.lenv, g2⟩

theorem wpL_defer {all : Array Oper} {o : Oper} {rest : List Oper} {d : Deferred} {Q : Exit → Act → World → Prop} (hg : o.guard = none) (he : (execOp a.eval o).run P w = .ok (.defer d) w) (hn : wpList P all Q rest ({ a with defers := d :: a.defers }.put o.dst Go.undef) w) : wpList P all Q (o :: rest) a w := by
  unfold wpList
  rw [if_pos (by simp [Region.wanted, hg])]
  left
  unfold Oper.wp
  rw [he, Oper.upon_defer]
  exact hn
/-- A part of a body, walked by PW; what follows by hand. -/
theorem PW.hand {c : Code} {F1 : Fr} {H1 : Heap} {Q : Exit → Act → World → Prop} (ks : List Nat) (h : PW P ⟨N, H⟩ c F H (fun x F' H' => x = .normal ∧ kp ks F' = F1 ∧ H' = H1)) (hd : a.defers = []) (hw : WRel C H w) (hf : FRel C N (slot F) a)
    (hn : ∀ C' a' w', CLe C C' → a'.defers = [] → WRel C' H1 w' → Below C.B w w' → FRel C' N (slot F1) a' → Q .normal a' w') : c.wp P Q a w := by
  refine wp_mono (h hw.hsc C a w hd hw hf) ?_
  rintro x a' w' ⟨C', F', H', y1, y2, y3, y4, y5, rfl, rfl, rfl⟩
  exact hn C' a' w' (y1.full hw.lenv) y2 y3 y4 (y5.keep ks)

/-- The first n operations of a region; what follows by hand. -/
theorem wp_region_cut {id : Nat} {ops : Array Oper} {K : Fr → Heap → Prop} {Q : Exit → Act → World → Prop} (n : Nat) (hd : (ops.toList.take n).all (dstOk N) = true) (h : VO P (ops.toList.map (·.dst)) (ops.toList.take n) (some (F, H)) K) {D : List Deferred} (hD : a.defers = D) (hw : WRel C H w) (hf : FRel C N (slot F) a)
    (hn : ∀ C' F' H' a' w', CLe C C' → a'.defers = D → WRel C' H' w' → Below C.B w w' → FRel C' N (slot F') a' → K F' H' → wpList P ops Q (ops.toList.drop n) a' w') : (Code.region id ops false).wp P Q a w := by
  refine wp_region_list ?_
  have := vops_then (P := P) (all := ops.toList) (rest := ops.toList.drop n) (ops.toList.take n) F H hd (VO_sound _ _ _ h) C a w hD hw hf Q (fun C' F' H' a' w' p1 p2 p3 p4 p5 p6 => by
    simpa using hn C' F' H' a' w' p1 p2 p3 p4 p5 p6)
  rw [List.take_append_drop] at this
  simpa using this
theorem WRel.dropV {A K : Heap} {C0 : Ctx} {w0 : World} {v : PV} {u : Value} (h0 : WRel C0 H w0) (hl : H.length = A.length) (hA : HSc A) (hle : CLe C0 C) (hw : WRel C (A ++ K) w) (hv : VRel C v u) (hs : Scoped A.length v) : ∃ C', CLe C0 C' ∧ WRel C' A w ∧ VRel C' v u := by
  obtain ⟨g1, g2⟩ := hw.cutN (CutH.base hA)
  exact ⟨_, ((hle.toN _).trans (g1.less (m := H.length) (by omega))).full h0.lenv, g2, (Fz.id hs).sound hw hv⟩

end Go.Proofs.Ytcabpncdgagihaa.Pm

namespace Go.Proofs.Ytcabpncdgagihaa.Sc
set_option linter.all false
set_option linter.unusedVariables false
set_option linter.unusedSimpArgs false
open Pm Ty Go.RowKit

theorem catch_idle (x y : Value) (w : World) : CallsD Try.prog 114 #[x, y] .returning w fun e u' w' => e = .returned (.tuple #[]) ∧ u' = .returning ∧ w' = w := by
  refine callsD_of_wpS Try.func114 rfl fun c₀ cs hu => ?_
  apply wpS_seq
  apply wpS_region
  simp [wpOpsS, go_sem, recoverD, hu, Try.ntmps114, Exit.thenS]
  apply wpS_seq
  apply wpS_region
  simp [wpOpsS, go_sem, Exit.thenS]
  refine wpS_cond (t := false) (by simp [Act.eval, Array.replicate]) ?_
  simp only [Bool.false_eq_true, if_false]
  refine wpS_of_wp (wp_skip ?_)
  cases c₀
  simp_all [bodyPostS, results, Try.results114]

/-- What the closure does when read has panicked. -/
def caughtR (C : Ctx) (H' : Heap) (w : World) (e : Nat) : Ending → FrameMode → World → Prop := fun x u' w' =>
  x = .returned (.tuple #[]) ∧ u' = .panicking [{ v := .iface 175 (.agg #[.int .i64 ((e : Int) + 1)]), recovered := true }] ∧ ∃ C', CLe C C' ∧ WRel C' H' w' ∧ Below C.B w w'

set_option maxHeartbeats 1000000 in
theorem catch_pan (i4 i5 e : Nat) (l : List Int) (z : Int) (H : Heap) (C : Ctx) (x y : Value) (w : World) (h4 : H[i4]? = some ⟨46, 0, is l⟩) (h5 : H[i5]? = some ⟨35, 0, [.int .i64 z]⟩) (hl : l.length = 64) (hne : i4 ≠ i5)
    (hw : WRel C H w) (hx : VRel C (.ptr i4 0 0) x) (hy : VRel C (.ptr i5 0 0) y) :
    CallsD Try.prog 114 #[x, y] (.panicking (bpn e)) w (caughtR C ((H.set i4 ⟨46, 0, is z64⟩).set i5 ⟨35, 0, [.int .i64 ((e : Int) + 1)]⟩) w e) := by
  refine callsD_of_wpS Try.func114 rfl fun c₀ cs hu => ?_
  unfold bpn pnc at hu
  apply wpS_seq
  apply wpS_region
  simp [wpOpsS, go_sem, recoverD, hu, Try.ntmps114, Exit.thenS]
  apply wpS_seq
  apply wpS_region
  simp [wpOpsS, go_sem, Exit.thenS]
  refine wpS_cond (t := true) (by simp [Act.eval, Array.replicate]) ?_
  simp only [if_true]
  refine wpS_of_wp ?_
  have hp4 : i4 < H.length := (List.getElem?_eq_some_iff.1 h4).1
  have hp5 : i5 < H.length := (List.getElem?_eq_some_iff.1 h5).1
  have hfr : FRel C 17 (slot [(0, .ptr i4 0 0), (1, .ptr i5 0 0)]) { tmps := #[x, y] ++ ((((Array.replicate 15 undef).setIfInBounds 3 (Value.iface 175 (.agg #[.int .i64 ((e : Int) + 1)]))).setIfInBounds 0 (Value.iface 175 (.agg #[.int .i64 ((e : Int) + 1)]))).setIfInBounds 4 (Value.iface 175 (.agg #[.int .i64 ((e : Int) + 1)]))).setIfInBounds 5 (Value.bool true), defers := [] } := by
    refine ⟨by simp, fun t => ?_⟩
    match t with
    | 0 => exact hx
    | 1 => exact hy
    | t + 2 => exact .undef _
  have hil : (is l).length = 64 := by rw [is_len, hl]
  have hz : (is z64).length = 64 := by rw [is_len]; simp [z64]
  have hzc : (is z64).all PV.cell = true := is_cell z64
  have hdl : List.drop 64 (is l) = [] := List.drop_of_length_le (by omega)
  have hbz : ∀ Q : List PV → Prop, Q (is z64) → Q (List.replicate 64 (.int .i64 0)) := fun Q h => by simpa [is, z64] using h
  have h5' : (H.set i4 ⟨46, 0, is z64⟩)[i5]? = some ⟨35, 0, [.int .i64 z]⟩ := by rw [List.getElem?_set_ne hne]; exact h5
  generalize hPQ : bodyPostS Try.prog _ c₀ cs _ = PQ
  refine wp_seq (wp_region_list ?_)
  refine wpL_op (v := .agg (is z64)) (H' := H) hw hfr rfl rfl rfl (by kernel_rfl) fun C1 u1 w1 p1 p2 p3 p4 => ?_
  refine wpL_op (v := .tup []) (H' := H.set i4 ⟨46, 0, is z64⟩) p2 p4 rfl rfl rfl (by simp (maxSteps := 3000000) (disch := omega) only [go_sem, ↓reduceIte, reduceCtorEq, pappend, plen, h4, hz, hil, hdl]) fun C2 u2 w2 r1 r2 r3 r4 => ?_
  refine wpL_op (v := .tup []) (H' := (H.set i4 ⟨46, 0, is z64⟩).set i5 ⟨35, 0, [.int .i64 3]⟩) r2 r4 rfl rfl rfl (by simp (maxSteps := 3000000) (disch := omega) only [go_sem, ↓reduceIte, reduceCtorEq, pappend, plen, h5']) fun C3 u3 w3 s1 s2 s3 s4 => ?_
  refine wp_seq (wp_region_list ?_)
  refine wpL_val (u := .iface 175 (.agg #[.int .i64 ((e : Int) + 1)])) rfl (by kernel_rfl) ?_
  have t1 := s4.put (some 10) (fun t ht => by injection ht with ht; omega) (VRel.undef (C := C3) (Value.iface 175 (.agg #[.int .i64 ((e : Int) + 1)])))
  refine wpL_val (u := .tuple #[.agg #[.int .i64 ((e : Int) + 1)], .bool true]) rfl (by kernel_rfl) ?_
  have hvt : VRel C3 (.tup [.agg [.int .i64 ((e : Int) + 1)], .bool true]) (.tuple #[.agg #[.int .i64 ((e : Int) + 1)], .bool true]) := by
    refine .tup (us := [.agg #[.int .i64 ((e : Int) + 1)], .bool true]) rfl fun j x u hx hu => ?_
    match j with
    | 0 =>
      injection hx with hx; injection hu with hu
      subst hx hu
      refine .agg (us := [.int .i64 ((e : Int) + 1)]) rfl (by simp [PV.cell]) fun j x u hx hu => ?_
      match j with
      | 0 => injection hx with hx; injection hu with hu; subst hx hu; exact .int _ _
      | j + 1 => cases hx
    | 1 => injection hx with hx; injection hu with hu; subst hx hu; exact .bool _
    | j + 2 => cases hx
  have t2 := t1.put (some 11) (fun t ht => by injection ht with ht; omega) hvt
  rw [← get_put, ← get_put] at t2
  have hl2 : ((H.set i4 ⟨46, 0, is z64⟩).set i5 ⟨35, 0, [.int .i64 3]⟩).length = H.length := by simp
  have g5 : ((H.set i4 ⟨46, 0, is z64⟩).set i5 ⟨35, 0, [.int .i64 3]⟩)[i5]? = some ⟨35, 0, [.int .i64 3]⟩ := by simp [hp5]
  have hss : ((H.set i4 ⟨46, 0, is z64⟩).set i5 ⟨35, 0, [.int .i64 3]⟩).set i5 ⟨35, 0, [.int .i64 ((e : Int) + 1)]⟩ = (H.set i4 ⟨46, 0, is z64⟩).set i5 ⟨35, 0, [.int .i64 ((e : Int) + 1)]⟩ := List.set_set ..
  have hscF : HSc H → HSc ((H.set i4 ⟨46, 0, is z64⟩).set i5 ⟨35, 0, [.int .i64 ((e : Int) + 1)]⟩) := fun h => HSc.set (HSc.set h (is_scoped _ _)) fun x hx => by
    simp only [List.mem_cons, List.not_mem_nil, or_false] at hx
    subst hx; exact .int _ _
  have hlF : H.length = ((H.set i4 ⟨46, 0, is z64⟩).set i5 ⟨35, 0, [.int .i64 ((e : Int) + 1)]⟩).length := by simp
  generalize (H.set i4 ⟨46, 0, is z64⟩).set i5 ⟨35, 0, [.int .i64 3]⟩ = H2 at *
  generalize (H.set i4 ⟨46, 0, is z64⟩).set i5 ⟨35, 0, [.int .i64 ((e : Int) + 1)]⟩ = H3 at *
  refine vops_sound (N := 17) _ _ _ rfl (K := fun F' H' => kp [1, 3, 4] F' = [(1, .ptr i5 0 0), (3, .ptr H2.length 0 0), (4, .bool true)] ∧ H' = H2 ++ [⟨175, 0, [.int .i64 ((e : Int) + 1)]⟩]) (VO_sound _ _ _ ?_) C3 _ w3 rfl s2 t2 _ ?_
  · simp (maxSteps := 3000000) (disch := omega) only [go_sem, ↓reduceIte, reduceCtorEq, pappend, plen]
  intro C4 F4 H4 a4 w4 k1 k2 k3 k4 k5 ⟨k6, k7⟩
  subst k7
  have k5' := k5.keep [1, 3, 4]
  rw [k6] at k5'
  have g5x := get_ext (K := [(⟨175, 0, [.int .i64 ((e : Int) + 1)]⟩ : Blk)]) g5
  have hsx : ∀ B : Blk, (H2 ++ [(⟨175, 0, [.int .i64 ((e : Int) + 1)]⟩ : Blk)]).set i5 B = H2.set i5 B ++ [⟨175, 0, [.int .i64 ((e : Int) + 1)]⟩] := fun B => by
    exact List.set_append_left _ _ (by omega)
  have gF := hp0 H2 [] ⟨175, 0, [.int .i64 ((e : Int) + 1)]⟩
  have pw : ∀ {c : Code} {Q : Exit → Act → World → Prop}, PW Try.prog ⟨17, H2 ++ [⟨175, 0, [.int .i64 ((e : Int) + 1)]⟩]⟩ c [(1, .ptr i5 0 0), (3, .ptr H2.length 0 0), (4, .bool true)] (H2 ++ [⟨175, 0, [.int .i64 ((e : Int) + 1)]⟩]) (fun x _ H' => x = .normal ∧ H' = H3 ++ [⟨175, 0, [.int .i64 ((e : Int) + 1)]⟩]) →
      (∀ C' a' w', CLe C4 C' → a'.defers = [] → WRel C' (H3 ++ [⟨175, 0, [.int .i64 ((e : Int) + 1)]⟩]) w' → Below C4.B w4 w' → a'.tmps.size = 17 → Q .normal a' w') → c.wp Try.prog Q a4 w4 := fun h hQ => by
    refine wp_mono (h k3.hsc C4 a4 w4 k2 k3 k5') ?_
    rintro x a' w' ⟨C', F', H', y1, y2, y3, y4, y5, rfl, rfl⟩
    exact hQ C' a' w' (y1.full k3.lenv) y2 y3 y4 y5.1
  refine pw ?_ ?_
  · (repeat refine PW.seq ?_); refine PW.rg rfl fun K hK => ?_; simp (maxSteps := 3000000) (disch := omega) only [go_sem, ↓reduceIte, reduceCtorEq, pappend, plen]; refine hK _ _ ?_; clear hK K
    (repeat refine PW.seq ?_); refine PW.cond (t := _) rfl (fun h => ?_) (fun h => ?_)
    rotate_left
    · cases h
    (repeat refine PW.seq ?_); refine PW.rg rfl fun K hK => ?_; simp (maxSteps := 3000000) (disch := omega) only [go_sem, ↓reduceIte, reduceCtorEq, pappend, plen, gF, g5x, hsx, hss]; refine hK _ _ ?_; clear hK K
    exact ⟨rfl, rfl⟩
  intro C5 a5 w5 y1 y2 y3 y4 y5
  show PQ _ _ _ _
  rw [← hPQ]
  have c1 := p1.trans r1
  have c2 := c1.trans s1
  have c3 := c2.trans k1
  have c4 := c3.trans y1
  have b1 := p3.trans (by rw [← p1.B]; exact r3)
  have b2 := b1.trans (by rw [← c1.B]; exact s3)
  have b3 := b2.trans (by rw [← c2.B]; exact k4)
  have b4 := b3.trans (by rw [← c3.B]; exact y4)
  obtain ⟨C', d1, d2⟩ := WRel.drop hw hlF (hscF hw.hsc) c4 y3
  exact ⟨y2, _, rfl, .tuple #[], by simp [results, Try.results114], rfl, rfl, C', d1, d2, b4⟩

end Go.Proofs.Ytcabpncdgagihaa.Sc

namespace Go.Proofs.Ytcabpncdgagihaa.Sc
set_option linter.all false
set_option linter.unusedVariables false
set_option linter.unusedSimpArgs false
open Pm Ty Go.RowKit

def rvB : Rr (List Int) → PV
  | .ok l _ => .tup [.agg (is l), .int .i64 0]
  | .er e _ => .tup [.agg (is z64), .int .i64 ((e : Int) + 1)]
theorem rvB_sc (k : Nat) (x : Rr (List Int)) : Scoped k (rvB x) := by
  cases x <;> refine .tup fun j x hx => ?_
  all_goals
    have := List.mem_of_getElem? hx
    simp only [List.mem_cons, List.not_mem_nil, or_false] at this
    rcases this with rfl | rfl
    · exact ag_scoped (is_scoped _ _)
    · exact .int _ _
/-- What Take has in memory. -/
def tkH (H : Heap) (i : Nat) (p : List UInt8) (n a : Nat) (l : List Int) (e : Int) : Heap := H.set i (rA p n a) ++ [⟨46, 0, is l⟩, ⟨35, 0, [.int .i64 e]⟩]

set_option maxHeartbeats 1000000 in
set_option maxRecDepth 100000 in
theorem btake_ok (i : Nat) (p : List UInt8) (n a fr : Nat) (H : Heap) (hA : H[i]? = some (rA p n a)) (ha : a ≤ n) (hn : n ≤ 8 * p.length) (hp : p.length ≤ 100000000) (hfr : fr ≤ 1) :
    CallOk Try.prog 97 [.ptr i 0 0, .int .i64 (fr : Int)] H (rvB (tkBl p n fr a)) (H.set i (rA p n (tkBl p n fr a).at)) := by
  have hi := (List.getElem?_eq_some_iff.1 hA).1
  have hself := set_self hA
  refine ⟨by kernel_rfl, fun C us w hw hargs => calls_of_wp_defers Try.func97 rfl ?_⟩
  have hfr0 := frel_args (N := 18) hargs (Nat.le_of_ble_eq_true rfl)
  change FRel C 18 (slot [(0, .ptr i 0 0), (1, .int .i64 (fr : Int))]) _ at hfr0
  have vo := fun K => vst_ok fr K hfr
  have hAx := fun K => get_ext (K := K) hA
  refine wp_seq ?_
  refine PW.hand [0, 1, 4, 5] (F1 := [(0, .ptr i 0 0), (1, .int .i64 (fr : Int)), (4, .ptr H.length 0 0), (5, .ptr (H.length + 1) 0 0)]) (H1 := tkH H i p n a z64 0) ?_ rfl hw hfr0 ?_
  · (repeat refine PW.seq ?_); refine PW.rg rfl fun K hK => ?_; simp (maxSteps := 3000000) (disch := omega) only [go_sem, ↓reduceIte, reduceCtorEq, pappend, plen]; refine hK _ _ ?_; clear hK K
    refine ⟨rfl, rfl, ?_⟩
    unfold tkH; rw [hself]; rfl
  intro C1 a1 w1 p1 p2 p3 p4 p5
  refine wp_seq ?_
  have g0 : (tkH H i p n a z64 0)[i]? = some (rA p n a) := by unfold tkH; rw [hself]; exact hAx _
  refine PW.hand [0, 1, 4, 5] (F1 := [(0, .ptr i 0 0), (1, .int .i64 (fr : Int)), (4, .ptr H.length 0 0), (5, .ptr (H.length + 1) 0 0)]) (H1 := tkH H i p n a z64 0) ?_ p2 p3 p5 ?_
  · (repeat refine PW.seq ?_); refine PW.rg rfl fun K hK => ?_; simp (maxSteps := 3000000) (disch := omega) only [go_sem, ↓reduceIte, reduceCtorEq, pappend, plen, g0, rA]
    refine VCx.call (vo _) rfl ?_; simp (maxSteps := 3000000) (disch := omega) only [go_sem, ↓reduceIte, reduceCtorEq, pappend, plen]; refine hK _ _ ?_; clear hK K
    (repeat refine PW.seq ?_); refine PW.cond (t := _) rfl (fun h => ?_) (fun h => ?_)
    · cases h
    exact PW.skip ⟨rfl, rfl, rfl⟩
  intro C2 a2 w2 r1 r2 r3 r4 r5
  refine wp_seq (wp_region_list ?_)
  have hx := r5.2 4
  have hy := r5.2 5
  generalize hxv : a2.tmps.getD 4 Go.undef = x at hx
  generalize hyv : a2.tmps.getD 5 Go.undef = y at hy
  refine wpL_val (u := .func (.func 114) #[] #[x, y]) rfl ?_ ?_
  · subst hxv hyv
    simp [execOp, Instr.makeFunc, Act.eval]
  refine wpL_defer (d := ⟨.fn (.func 114) #[x, y], #[]⟩) rfl ?_ ?_
  · have e14 : (a2.put (some 14) (Value.func (.func 114) #[] #[x, y])).eval (.tmp 14) = Value.func (.func 114) #[] #[x, y] := by
      have := r5.1
      simp [Act.put, Act.eval, this]
    simp [execOp, resolve, e14, Deferred.ofValue]
  have t1 := r5.put (some 14) (fun t ht => by injection ht with ht; omega) (VRel.undef (C := C2) (Value.func (.func 114) #[] #[x, y]))
  rw [← get_put] at t1
  have t2 : FRel C2 18 (slot [(14, .undef), (0, .ptr i 0 0), (1, .int .i64 (fr : Int)), (4, .ptr H.length 0 0), (5, .ptr (H.length + 1) 0 0)]) ({ a2.put (some 14) (Value.func (.func 114) #[] #[x, y]) with defers := ⟨.fn (.func 114) #[x, y], #[]⟩ :: a2.defers }) := t1
  have hhsc := fun a' => hsc_rA H i p n a' hw.hsc
  have cB1 : CLe C C2 := p1.trans r1
  have bB1 : Below C.B w w2 := p4.trans (by rw [← p1.B]; exact r4)
  have htk : ∀ a' l z, (tkH H i p n a l z).set i (rA p n a') = tkH H i p n a' l z := fun a' l z => by
    unfold tkH; rw [List.set_append_left _ _ (by simpa using hi), List.set_set]
  have h4 : ∀ a' l z, (tkH H i p n a' l z)[H.length]? = some ⟨46, 0, is l⟩ := fun a' l z => by
    have := hp0 (H.set i (rA p n a')) [⟨35, 0, [.int .i64 z]⟩] ⟨46, 0, is l⟩
    rwa [List.length_set] at this
  have h5 : ∀ a' l z, (tkH H i p n a' l z)[H.length + 1]? = some ⟨35, 0, [.int .i64 z]⟩ := fun a' l z => by
    have := hp1 (H.set i (rA p n a')) [] ⟨46, 0, is l⟩ ⟨35, 0, [.int .i64 z]⟩
    rwa [List.length_set] at this
  have s4 : ∀ a' l z l', (tkH H i p n a' l z).set H.length ⟨46, 0, is l'⟩ = tkH H i p n a' l' z := fun a' l z l' => by
    have := hs0 (H.set i (rA p n a')) [⟨35, 0, [.int .i64 z]⟩] ⟨46, 0, is l⟩ ⟨46, 0, is l'⟩
    rwa [List.length_set] at this
  have s5 : ∀ a' l z z', (tkH H i p n a' l z).set (H.length + 1) ⟨35, 0, [.int .i64 z']⟩ = tkH H i p n a' l z' := fun a' l z z' => by
    have := hs1 (H.set i (rA p n a')) [] ⟨46, 0, is l⟩ ⟨35, 0, [.int .i64 z]⟩ ⟨35, 0, [.int .i64 z']⟩
    rwa [List.length_set] at this
  have hz : (is z64).length = 64 := by rw [is_len]; simp [z64]
  have hsl : ∀ a', H.length = (H.set i (rA p n a')).length := fun a' => by simp
  refine wp_seq ?_
  cases hr : tkBl p n fr a with
  | ok l a' =>
    have rd := read_ok i p n a fr a' l (tkH H i p n a z64 0) g0 ha hn hp hfr hr
    rw [htk] at rd
    have hll : l.length = 64 := by
      have := (tkB_b _ _ _ _ hr ha).2.2
      simpa [z64] using this
    have hil : (is l).length = 64 := by rw [is_len, hll]
    have htl : List.take 64 (is l) = is l := List.take_of_length_le (by omega)
    have hcl := is_cell l
    have hdz : List.drop 64 (is z64) = [] := List.drop_of_length_le (by omega)
    refine wp_region_cut 5 rfl (K := fun F' H' => kp [4, 5] F' = [(4, .ptr H.length 0 0), (5, .ptr (H.length + 1) 0 0)] ∧ H' = tkH H i p n a' l 0) ?_ (D := [⟨.fn (.func 114) #[x, y], #[]⟩]) (by simp [Act.put, r2]) r3 t2 ?_
    · simp (maxSteps := 3000000) (disch := omega) only [go_sem, ↓reduceIte, reduceCtorEq, pappend, plen]
      refine VCx.call (rd) rfl ?_; simp (maxSteps := 3000000) (disch := omega) only [go_sem, ↓reduceIte, reduceCtorEq, pappend, plen, h4, h5, s4, s5, hil, hz, hcl, hdz]
    intro C3 F3 H3 a3 w3 q1 q2 q3 q4 q5 ⟨q6, q7⟩
    subst q7
    have q5' := q5.keep [4, 5]
    rw [q6] at q5'
    refine wp_ret ?_
    show Leaves _ _ _ _ _ _ _
    rw [q2]
    refine leaves_cons (by simp) (by kernel_rfl) ((catch_idle x y w3).mono ?_)
    rintro _ _ _ ⟨rfl, rfl, rfl⟩
    obtain ⟨u, u1, u2⟩ := presults_sound (P := Try.prog) (fn := Try.f97) (v := .tup [.agg (is l), .int .i64 0]) q3 q5' (by simp (maxSteps := 3000000) (disch := omega) only [go_sem, ↓reduceIte, reduceCtorEq, pappend, plen, presults, presult, List.mapM_cons, List.mapM_nil, Option.pure_def, Option.bind_eq_bind, Option.bind_some, Array.toList, Try.results97, h4, h5, hil, htl])
    obtain ⟨C', d1, d2, d3⟩ := WRel.dropV hw (hsl a') (hhsc a') (cB1.trans q1) q3 u1 (rvB_sc _ (.ok l a'))
    exact ⟨u, u2, C', u, d1, d2, bB1.trans (by rw [← cB1.B]; exact q4), rfl, d3⟩
  | er e a' =>
    have rd := read_pan i p n a fr e a' (tkH H i p n a z64 0) g0 ha hn hp hfr hr
    rw [htk] at rd
    refine wp_region_cut 2 rfl (K := fun F' H' => kp [4, 5, 15, 16] F' = [(4, .ptr H.length 0 0), (5, .ptr (H.length + 1) 0 0), (15, .ptr i 0 0), (16, .int .i64 (fr : Int))] ∧ H' = tkH H i p n a z64 0) ?_ (D := [⟨.fn (.func 114) #[x, y], #[]⟩]) (by simp [Act.put, r2]) r3 t2 ?_
    · simp (maxSteps := 3000000) (disch := omega) only [go_sem, ↓reduceIte, reduceCtorEq, pappend, plen]
    intro C3 F3 H3 a3 w3 q1 q2 q3 q4 q5 ⟨q6, q7⟩
    subst q7
    have q5' := q5.keep [4, 5, 15, 16]
    rw [q6] at q5'
    show wpList _ _ _ (_ :: _) _ _
    unfold wpList
    rw [if_pos (by kernel_rfl)]
    left
    refine execPan_sound q3 q5' (by simp (maxSteps := 3000000) (disch := omega) only [go_sem, ↓reduceIte, reduceCtorEq, pappend, plen, pcallee]) rd _ _ fun C4 w4 y1 y2 y3 y4 => ?_
    show Leaves _ _ _ _ _ _ _
    rw [q2]
    have hx4 := hx.mono (q1.trans y1)
    have hy4 := hy.mono (q1.trans y1)
    have cp := catch_pan H.length (H.length + 1) e z64 0 (tkH H i p n a' z64 0) C4 x y w4 (h4 _ _ _) (h5 _ _ _) (by simp [z64]) (by omega) y2 hx4 hy4
    rw [s4, s5] at cp
    refine leaves_cons (by simp) (by kernel_rfl) (cp.mono ?_)
    rintro _ _ w5 ⟨rfl, rfl, C5, v1, v2, v3⟩
    have htl : List.take 64 (is z64) = is z64 := List.take_of_length_le (by omega)
    obtain ⟨u, u1, u2⟩ := presults_sound (P := Try.prog) (fn := Try.f97) (v := .tup [.agg (is z64), .int .i64 ((e : Int) + 1)]) v2 (y4.mono v1) (by simp (maxSteps := 3000000) (disch := omega) only [go_sem, ↓reduceIte, reduceCtorEq, pappend, plen, presults, presult, List.mapM_cons, List.mapM_nil, Option.pure_def, Option.bind_eq_bind, Option.bind_some, Array.toList, Try.results97, h4, h5, hz, htl])
    have c3 := (cB1.trans q1).trans y1
    obtain ⟨C', d1, d2, d3⟩ := WRel.dropV hw (hsl a') (hhsc a') (c3.trans v1) v2 u1 (rvB_sc _ (.er e a'))
    have b2 := bB1.trans (by rw [← cB1.B]; exact q4)
    have b3 := b2.trans (by rw [← (cB1.trans q1).B]; exact y3)
    exact ⟨u, u2, C', u, d1, d2, b3.trans (by rw [← c3.B]; exact v3), rfl, d3⟩

end Go.Proofs.Ytcabpncdgagihaa.Sc

namespace Go.Proofs.Ytcabpncdgagihaa.Sc
set_option linter.all false
set_option linter.unusedVariables false
set_option linter.unusedSimpArgs false
open Pm Ty Go.RowKit

def vqB (q : Int) : Bool := decide (1 ≤ q) && decide (q ≤ 31)
def vstB (s : St) : Bool := (win s.da 4095 && (win s.db 4095 && win s.dc 4095)) && (vqB s.q && (vrg s.va s.vb && vrg s.vc s.vd))
theorem vq_ok (q : Int) (H : Heap) : CallOk Try.prog 26 [.int .i64 q] H (.bool (vqB q)) H := by
  refine CallOk.body (F0 := [(0, .int .i64 q)]) Try.func26 rfl Try.ntmps26 Try.results26 rfl (by kernel_rfl) rfl ?_
  (repeat' (first | refine PW.seq ?_ | refine PW.skip ?_ | refine PW.block ?_ | (refine PW.rg rfl fun K hK => ?_; simp (maxSteps := 3000000) (disch := omega) only [go_sem, ↓reduceIte, reduceCtorEq, pappend, plen]) | (refine PW.draw mix (by kernel_rfl) fun K hK => ?_; simp (maxSteps := 3000000) (disch := omega) only [go_sem, ↓reduceIte, reduceCtorEq, pappend, plen]) | (refine PW.drawg mix (by kernel_rfl) fun K hK => ?_; simp (maxSteps := 3000000) (disch := omega) only [go_sem, ↓reduceIte, reduceCtorEq, pappend, plen]) | (refine PW.drawt [] [] mix (by kernel_rfl) fun K hK => ?_; simp (maxSteps := 3000000) (disch := omega) only [go_sem, ↓reduceIte, reduceCtorEq, pappend, plen]) | ((first | refine VO_cond (fun h => ?_) (fun h => ?_) | refine VOd_cond (fun h => ?_) (fun h => ?_) | refine VOg_cond (fun h => ?_) (fun h => ?_) | refine VOh_cond (fun h => ?_) (fun h => ?_) | refine VOi_cond (fun h => ?_) (fun h => ?_) | refine And.intro (fun h => ?_) (fun h => ?_)) <;> (try simp only [Bool.not_eq_true', Bool.not_eq_false', decide_eq_true_eq, decide_eq_false_iff_not] at h) <;> simp (maxSteps := 3000000) (disch := omega) only [go_sem, ↓reduceIte, reduceCtorEq, pappend, plen, h]) | (refine hK _ _ ?_; clear hK K) | (refine PW.cond (t := _) rfl (fun h => ?_) (fun h => ?_) <;> (try (cases h; done)) <;> (try simp only [Bool.not_eq_true', Bool.not_eq_false', decide_eq_true_eq, decide_eq_false_iff_not] at h))))
  all_goals ((refine PW.ret ⟨_, rfl, ?_⟩; first | refine .inl ⟨?_, rfl⟩ | refine Fin.base (.id' ?_ (.bool _)) | refine Fin.base (.id' ?_ (.int _ _))); (simp_all [vqB, slot, Nat.beq] <;> first | rfl | omega | (rw [Bool.eq_iff_iff]; simp; done) | (rw [Bool.eq_iff_iff]; simp; omega)))
theorem vst_ok' (s : St) (H : Heap) : CallOk Try.prog 25 [.agg (stc s)] H (.bool (vstB s)) H := by
  generalize hr : vstB s = r
  obtain ⟨q, da, db, dc, va, vb, vc, vd⟩ := s
  have w1 := fun x K => win_ok x 4095 K (by omega)
  have v1 := fun x y K => vrg_ok x y K
  have q1 := fun K => vq_ok q K
  refine CallOk.body (F0 := [(0, .agg [.int .i64 q, .int .i64 da, .int .i64 db, .int .i64 dc, .int .i64 va, .int .i64 vb, .int .i64 vc, .int .i64 vd])]) Try.func25 rfl Try.ntmps25 Try.results25 rfl (by kernel_rfl) rfl ?_
  (repeat' (first | refine PW.seq ?_ | refine PW.skip ?_ | refine PW.block ?_ | refine PW.loop ?_ | refine PL.round ?_ | refine PW.exit ?_ | (refine PW.rg rfl fun K hK => ?_; simp (maxSteps := 3000000) (disch := omega) only [go_sem, ↓reduceIte, reduceCtorEq, pappend, plen]) | (refine PW.draw mix (by kernel_rfl) fun K hK => ?_; simp (maxSteps := 3000000) (disch := omega) only [go_sem, ↓reduceIte, reduceCtorEq, pappend, plen]) | (refine PW.drawg mix (by kernel_rfl) fun K hK => ?_; simp (maxSteps := 3000000) (disch := omega) only [go_sem, ↓reduceIte, reduceCtorEq, pappend, plen]) | (refine PW.drawt [] [] mix (by kernel_rfl) fun K hK => ?_; simp (maxSteps := 3000000) (disch := omega) only [go_sem, ↓reduceIte, reduceCtorEq, pappend, plen]) | ((first | refine VO_cond (fun h => ?_) (fun h => ?_) | refine VOd_cond (fun h => ?_) (fun h => ?_) | refine VOg_cond (fun h => ?_) (fun h => ?_) | refine VOh_cond (fun h => ?_) (fun h => ?_) | refine VOi_cond (fun h => ?_) (fun h => ?_) | refine And.intro (fun h => ?_) (fun h => ?_)) <;> (try simp only [Bool.not_eq_true', Bool.not_eq_false', decide_eq_true_eq, decide_eq_false_iff_not] at h) <;> simp (maxSteps := 3000000) (disch := omega) only [go_sem, ↓reduceIte, reduceCtorEq, pappend, plen, h]) | (refine VCx.call (w1 _ _) rfl ?_; simp (maxSteps := 3000000) (disch := omega) only [go_sem, ↓reduceIte, reduceCtorEq, pappend, plen]) | (refine VCx.call (v1 _ _ _) rfl ?_; simp (maxSteps := 3000000) (disch := omega) only [go_sem, ↓reduceIte, reduceCtorEq, pappend, plen]) | (refine VCx.call (q1 _) rfl ?_; simp (maxSteps := 3000000) (disch := omega) only [go_sem, ↓reduceIte, reduceCtorEq, pappend, plen]) | (refine VCy.call (w1 _ _) rfl ?_; simp (maxSteps := 3000000) (disch := omega) only [go_sem, ↓reduceIte, reduceCtorEq, pappend, plen]) | (refine VCy.call (v1 _ _ _) rfl ?_; simp (maxSteps := 3000000) (disch := omega) only [go_sem, ↓reduceIte, reduceCtorEq, pappend, plen]) | (refine VCy.call (q1 _) rfl ?_; simp (maxSteps := 3000000) (disch := omega) only [go_sem, ↓reduceIte, reduceCtorEq, pappend, plen]) | (refine VCz.call (fun _ => w1 _ _) rfl ?_; simp (maxSteps := 3000000) (disch := omega) only [go_sem, ↓reduceIte, reduceCtorEq, pappend, plen]) | (refine VCz.call (fun _ => v1 _ _ _) rfl ?_; simp (maxSteps := 3000000) (disch := omega) only [go_sem, ↓reduceIte, reduceCtorEq, pappend, plen]) | (refine VCz.call (fun _ => q1 _) rfl ?_; simp (maxSteps := 3000000) (disch := omega) only [go_sem, ↓reduceIte, reduceCtorEq, pappend, plen]) | (refine VCk.call (fun _ _ => w1 _ _) rfl ?_; simp (maxSteps := 3000000) (disch := omega) only [go_sem, ↓reduceIte, reduceCtorEq, pappend, plen]) | (refine VCk.call (fun _ _ => v1 _ _ _) rfl ?_; simp (maxSteps := 3000000) (disch := omega) only [go_sem, ↓reduceIte, reduceCtorEq, pappend, plen]) | (refine VCk.call (fun _ _ => q1 _) rfl ?_; simp (maxSteps := 3000000) (disch := omega) only [go_sem, ↓reduceIte, reduceCtorEq, pappend, plen]) | (refine VCj.now (w1 _ _) rfl ?_; simp (maxSteps := 3000000) (disch := omega) only [go_sem, ↓reduceIte, reduceCtorEq, pappend, plen]) | (refine VCj.now (v1 _ _ _) rfl ?_; simp (maxSteps := 3000000) (disch := omega) only [go_sem, ↓reduceIte, reduceCtorEq, pappend, plen]) | (refine VCj.now (q1 _) rfl ?_; simp (maxSteps := 3000000) (disch := omega) only [go_sem, ↓reduceIte, reduceCtorEq, pappend, plen]) | (refine hK _ _ ?_; clear hK K) | (refine PW.cond (t := _) rfl (fun h => ?_) (fun h => ?_) <;> (try (cases h; done)) <;> (try simp only [Bool.not_eq_true', Bool.not_eq_false', decide_eq_true_eq, decide_eq_false_iff_not] at h))))
  all_goals ((refine PW.ret ⟨_, rfl, ?_⟩; first | refine .inl ⟨?_, rfl⟩ | refine Fin.base (.id' ?_ (.bool _)) | refine Fin.base (.id' ?_ (.int _ _))); subst hr; clear w1 v1 q1; (simp_all [vstB, slot, Nat.beq] <;> first | rfl | omega | (rw [Bool.eq_iff_iff]; simp; done) | (rw [Bool.eq_iff_iff]; simp; omega)))
theorem vst_ref (s : St) (H : Heap) : CallOk Try.prog 34 [.agg (stc s)] H (.bool (vstB s)) H := by
  generalize hr : vstB s = r
  obtain ⟨q, da, db, dc, va, vb, vc, vd⟩ := s
  have w1 := fun x K => win_ref x K
  have v1 := fun x y K => vrg_ref x y K
  refine CallOk.body (F0 := [(0, .agg [.int .i64 q, .int .i64 da, .int .i64 db, .int .i64 dc, .int .i64 va, .int .i64 vb, .int .i64 vc, .int .i64 vd])]) Try.func34 rfl Try.ntmps34 Try.results34 rfl (by kernel_rfl) rfl ?_
  (repeat' (first | refine PW.seq ?_ | refine PW.skip ?_ | refine PW.block ?_ | refine PW.loop ?_ | refine PL.round ?_ | refine PW.exit ?_ | (refine PW.rg rfl fun K hK => ?_; simp (maxSteps := 3000000) (disch := omega) only [go_sem, ↓reduceIte, reduceCtorEq, pappend, plen]) | (refine PW.draw mix (by kernel_rfl) fun K hK => ?_; simp (maxSteps := 3000000) (disch := omega) only [go_sem, ↓reduceIte, reduceCtorEq, pappend, plen]) | (refine PW.drawg mix (by kernel_rfl) fun K hK => ?_; simp (maxSteps := 3000000) (disch := omega) only [go_sem, ↓reduceIte, reduceCtorEq, pappend, plen]) | (refine PW.drawt [] [] mix (by kernel_rfl) fun K hK => ?_; simp (maxSteps := 3000000) (disch := omega) only [go_sem, ↓reduceIte, reduceCtorEq, pappend, plen]) | ((first | refine VO_cond (fun h => ?_) (fun h => ?_) | refine VOd_cond (fun h => ?_) (fun h => ?_) | refine VOg_cond (fun h => ?_) (fun h => ?_) | refine VOh_cond (fun h => ?_) (fun h => ?_) | refine VOi_cond (fun h => ?_) (fun h => ?_) | refine And.intro (fun h => ?_) (fun h => ?_)) <;> (try simp only [Bool.not_eq_true', Bool.not_eq_false', decide_eq_true_eq, decide_eq_false_iff_not] at h) <;> simp (maxSteps := 3000000) (disch := omega) only [go_sem, ↓reduceIte, reduceCtorEq, pappend, plen, h]) | (refine VCx.call (w1 _ _) rfl ?_; simp (maxSteps := 3000000) (disch := omega) only [go_sem, ↓reduceIte, reduceCtorEq, pappend, plen]) | (refine VCx.call (v1 _ _ _) rfl ?_; simp (maxSteps := 3000000) (disch := omega) only [go_sem, ↓reduceIte, reduceCtorEq, pappend, plen]) | (refine VCy.call (w1 _ _) rfl ?_; simp (maxSteps := 3000000) (disch := omega) only [go_sem, ↓reduceIte, reduceCtorEq, pappend, plen]) | (refine VCy.call (v1 _ _ _) rfl ?_; simp (maxSteps := 3000000) (disch := omega) only [go_sem, ↓reduceIte, reduceCtorEq, pappend, plen]) | (refine VCz.call (fun _ => w1 _ _) rfl ?_; simp (maxSteps := 3000000) (disch := omega) only [go_sem, ↓reduceIte, reduceCtorEq, pappend, plen]) | (refine VCz.call (fun _ => v1 _ _ _) rfl ?_; simp (maxSteps := 3000000) (disch := omega) only [go_sem, ↓reduceIte, reduceCtorEq, pappend, plen]) | (refine VCk.call (fun _ _ => w1 _ _) rfl ?_; simp (maxSteps := 3000000) (disch := omega) only [go_sem, ↓reduceIte, reduceCtorEq, pappend, plen]) | (refine VCk.call (fun _ _ => v1 _ _ _) rfl ?_; simp (maxSteps := 3000000) (disch := omega) only [go_sem, ↓reduceIte, reduceCtorEq, pappend, plen]) | (refine VCj.now (w1 _ _) rfl ?_; simp (maxSteps := 3000000) (disch := omega) only [go_sem, ↓reduceIte, reduceCtorEq, pappend, plen]) | (refine VCj.now (v1 _ _ _) rfl ?_; simp (maxSteps := 3000000) (disch := omega) only [go_sem, ↓reduceIte, reduceCtorEq, pappend, plen]) | (refine hK _ _ ?_; clear hK K) | (refine PW.cond (t := _) rfl (fun h => ?_) (fun h => ?_) <;> (try (cases h; done)) <;> (try simp only [Bool.not_eq_true', Bool.not_eq_false', decide_eq_true_eq, decide_eq_false_iff_not] at h))))
  all_goals ((refine PW.ret ⟨_, rfl, ?_⟩; first | refine .inl ⟨?_, rfl⟩ | refine Fin.base (.id' ?_ (.bool _)) | refine Fin.base (.id' ?_ (.int _ _))); subst hr; clear w1 v1; (simp_all [vstB, vqB, slot, Nat.beq] <;> first | rfl | omega | (rw [Bool.eq_iff_iff]; simp; done) | (rw [Bool.eq_iff_iff]; simp; omega)))
def aft (s : St) (k : Int) : St := ⟨s.q, if k = 1 then s.da else 0, if k = 1 then s.db else 0, if k = 1 then s.dc else 0, if k = 2 then s.va else 0, if k = 2 then s.vb else 0, if k = 2 then s.vc else 0, if k = 2 then s.vd else 0⟩
theorem aft_ok (s : St) (k : Int) (H : Heap) : CallOk Try.prog 32 [.agg (stc s), .int .i64 k] H (.agg (stc (aft s k))) H := by
  have hsc := stc_scoped (aft s k)
  obtain ⟨q, da, db, dc, va, vb, vc, vd⟩ := s
  have e0 : stc (aft ⟨q, da, db, dc, va, vb, vc, vd⟩ k) = [.int .i64 q, .int .i64 (if k = 1 then da else 0), .int .i64 (if k = 1 then db else 0), .int .i64 (if k = 1 then dc else 0), .int .i64 (if k = 2 then va else 0), .int .i64 (if k = 2 then vb else 0), .int .i64 (if k = 2 then vc else 0), .int .i64 (if k = 2 then vd else 0)] := rfl
  rw [e0] at hsc ⊢
  clear e0
  refine CallOk.body (F0 := [(0, .agg [.int .i64 q, .int .i64 da, .int .i64 db, .int .i64 dc, .int .i64 va, .int .i64 vb, .int .i64 vc, .int .i64 vd]), (1, .int .i64 k)]) Try.func32 rfl Try.ntmps32 Try.results32 rfl (by kernel_rfl) rfl ?_
  by_cases h1 : k = 1 <;> by_cases h2 : k = 2
  · omega
  · have b1 : (k != 1) = false := by simp [h1]
    have b2 : (k != 2) = true := by simp [h2]
    simp only [if_pos h1, if_neg h2] at hsc ⊢
    (repeat' (first | refine PW.seq ?_ | refine PW.skip ?_ | refine PW.block ?_ | (refine PW.rg rfl fun K hK => ?_; simp (maxSteps := 3000000) (disch := omega) only [go_sem, ↓reduceIte, reduceCtorEq, pappend, plen, b1, b2]) | (refine PW.draw mix (by kernel_rfl) fun K hK => ?_; simp (maxSteps := 3000000) (disch := omega) only [go_sem, ↓reduceIte, reduceCtorEq, pappend, plen, b1, b2]) | (refine PW.drawg mix (by kernel_rfl) fun K hK => ?_; simp (maxSteps := 3000000) (disch := omega) only [go_sem, ↓reduceIte, reduceCtorEq, pappend, plen, b1, b2]) | (refine PW.drawt [] [] mix (by kernel_rfl) fun K hK => ?_; simp (maxSteps := 3000000) (disch := omega) only [go_sem, ↓reduceIte, reduceCtorEq, pappend, plen, b1, b2]) | ((first | refine VO_cond (fun h => ?_) (fun h => ?_) | refine VOd_cond (fun h => ?_) (fun h => ?_) | refine VOg_cond (fun h => ?_) (fun h => ?_) | refine VOh_cond (fun h => ?_) (fun h => ?_) | refine VOi_cond (fun h => ?_) (fun h => ?_) | refine And.intro (fun h => ?_) (fun h => ?_)) <;> (try simp only [Bool.not_eq_true', Bool.not_eq_false', decide_eq_true_eq, decide_eq_false_iff_not] at h) <;> simp (maxSteps := 3000000) (disch := omega) only [go_sem, ↓reduceIte, reduceCtorEq, pappend, plen, b1, b2, h]) | (refine hK _ _ ?_; clear hK K) | (refine PW.cond (t := _) rfl (fun h => ?_) (fun h => ?_) <;> (try (cases h; done)) <;> (try simp only [Bool.not_eq_true', Bool.not_eq_false', decide_eq_true_eq, decide_eq_false_iff_not] at h))))
    refine PW.ret ⟨.agg [.int .i64 q, .int .i64 da, .int .i64 db, .int .i64 dc, .int .i64 0, .int .i64 0, .int .i64 0, .int .i64 0], by simp (maxSteps := 3000000) (disch := omega) only [go_sem, ↓reduceIte, reduceCtorEq, pappend, plen, presults, presult, List.mapM_cons, List.mapM_nil, Option.pure_def, Option.bind_eq_bind, Option.bind_some, Array.toList], ?_⟩
    exact Fin.base (.id (hsc _))
  · have b1 : (k != 1) = true := by simp [h1]
    have b2 : (k != 2) = false := by simp [h2]
    simp only [if_neg h1, if_pos h2] at hsc ⊢
    (repeat' (first | refine PW.seq ?_ | refine PW.skip ?_ | refine PW.block ?_ | (refine PW.rg rfl fun K hK => ?_; simp (maxSteps := 3000000) (disch := omega) only [go_sem, ↓reduceIte, reduceCtorEq, pappend, plen, b1, b2]) | (refine PW.draw mix (by kernel_rfl) fun K hK => ?_; simp (maxSteps := 3000000) (disch := omega) only [go_sem, ↓reduceIte, reduceCtorEq, pappend, plen, b1, b2]) | (refine PW.drawg mix (by kernel_rfl) fun K hK => ?_; simp (maxSteps := 3000000) (disch := omega) only [go_sem, ↓reduceIte, reduceCtorEq, pappend, plen, b1, b2]) | (refine PW.drawt [] [] mix (by kernel_rfl) fun K hK => ?_; simp (maxSteps := 3000000) (disch := omega) only [go_sem, ↓reduceIte, reduceCtorEq, pappend, plen, b1, b2]) | ((first | refine VO_cond (fun h => ?_) (fun h => ?_) | refine VOd_cond (fun h => ?_) (fun h => ?_) | refine VOg_cond (fun h => ?_) (fun h => ?_) | refine VOh_cond (fun h => ?_) (fun h => ?_) | refine VOi_cond (fun h => ?_) (fun h => ?_) | refine And.intro (fun h => ?_) (fun h => ?_)) <;> (try simp only [Bool.not_eq_true', Bool.not_eq_false', decide_eq_true_eq, decide_eq_false_iff_not] at h) <;> simp (maxSteps := 3000000) (disch := omega) only [go_sem, ↓reduceIte, reduceCtorEq, pappend, plen, b1, b2, h]) | (refine hK _ _ ?_; clear hK K) | (refine PW.cond (t := _) rfl (fun h => ?_) (fun h => ?_) <;> (try (cases h; done)) <;> (try simp only [Bool.not_eq_true', Bool.not_eq_false', decide_eq_true_eq, decide_eq_false_iff_not] at h))))
    refine PW.ret ⟨.agg [.int .i64 q, .int .i64 0, .int .i64 0, .int .i64 0, .int .i64 va, .int .i64 vb, .int .i64 vc, .int .i64 vd], by simp (maxSteps := 3000000) (disch := omega) only [go_sem, ↓reduceIte, reduceCtorEq, pappend, plen, presults, presult, List.mapM_cons, List.mapM_nil, Option.pure_def, Option.bind_eq_bind, Option.bind_some, Array.toList], ?_⟩
    exact Fin.base (.id (hsc _))
  · have b1 : (k != 1) = true := by simp [h1]
    have b2 : (k != 2) = true := by simp [h2]
    simp only [if_neg h1, if_neg h2] at hsc ⊢
    (repeat' (first | refine PW.seq ?_ | refine PW.skip ?_ | refine PW.block ?_ | (refine PW.rg rfl fun K hK => ?_; simp (maxSteps := 3000000) (disch := omega) only [go_sem, ↓reduceIte, reduceCtorEq, pappend, plen, b1, b2]) | (refine PW.draw mix (by kernel_rfl) fun K hK => ?_; simp (maxSteps := 3000000) (disch := omega) only [go_sem, ↓reduceIte, reduceCtorEq, pappend, plen, b1, b2]) | (refine PW.drawg mix (by kernel_rfl) fun K hK => ?_; simp (maxSteps := 3000000) (disch := omega) only [go_sem, ↓reduceIte, reduceCtorEq, pappend, plen, b1, b2]) | (refine PW.drawt [] [] mix (by kernel_rfl) fun K hK => ?_; simp (maxSteps := 3000000) (disch := omega) only [go_sem, ↓reduceIte, reduceCtorEq, pappend, plen, b1, b2]) | ((first | refine VO_cond (fun h => ?_) (fun h => ?_) | refine VOd_cond (fun h => ?_) (fun h => ?_) | refine VOg_cond (fun h => ?_) (fun h => ?_) | refine VOh_cond (fun h => ?_) (fun h => ?_) | refine VOi_cond (fun h => ?_) (fun h => ?_) | refine And.intro (fun h => ?_) (fun h => ?_)) <;> (try simp only [Bool.not_eq_true', Bool.not_eq_false', decide_eq_true_eq, decide_eq_false_iff_not] at h) <;> simp (maxSteps := 3000000) (disch := omega) only [go_sem, ↓reduceIte, reduceCtorEq, pappend, plen, b1, b2, h]) | (refine hK _ _ ?_; clear hK K) | (refine PW.cond (t := _) rfl (fun h => ?_) (fun h => ?_) <;> (try (cases h; done)) <;> (try simp only [Bool.not_eq_true', Bool.not_eq_false', decide_eq_true_eq, decide_eq_false_iff_not] at h))))
    refine PW.ret ⟨.agg [.int .i64 q, .int .i64 0, .int .i64 0, .int .i64 0, .int .i64 0, .int .i64 0, .int .i64 0, .int .i64 0], by simp (maxSteps := 3000000) (disch := omega) only [go_sem, ↓reduceIte, reduceCtorEq, pappend, plen, presults, presult, List.mapM_cons, List.mapM_nil, Option.pure_def, Option.bind_eq_bind, Option.bind_some, Array.toList], ?_⟩
    exact Fin.base (.id (hsc _))
def cmp (n : Nat) : Nat := n - 3
theorem cmp_ok (n : Nat) (H : Heap) (h : n < 6) : CallOk Try.prog 75 [.int .i64 (n : Int)] H (.int .i64 ((n - 3 : Nat) : Int)) H := by
  refine CallOk.body (F0 := [(0, .int .i64 (n : Int))]) Try.func75 rfl Try.ntmps75 Try.results75 rfl (by kernel_rfl) rfl ?_
  have h6 : n = 0 ∨ n = 1 ∨ n = 2 ∨ n = 3 ∨ n = 4 ∨ n = 5 := by omega
  rcases h6 with rfl | rfl | rfl | rfl | rfl | rfl <;> (repeat' (first | refine PW.seq ?_ | refine PW.skip ?_ | refine PW.block ?_ | (refine PW.rg rfl fun K hK => ?_; simp (maxSteps := 3000000) (disch := omega) only [go_sem, ↓reduceIte, reduceCtorEq, pappend, plen]) | (refine PW.draw mix (by kernel_rfl) fun K hK => ?_; simp (maxSteps := 3000000) (disch := omega) only [go_sem, ↓reduceIte, reduceCtorEq, pappend, plen]) | (refine PW.drawg mix (by kernel_rfl) fun K hK => ?_; simp (maxSteps := 3000000) (disch := omega) only [go_sem, ↓reduceIte, reduceCtorEq, pappend, plen]) | (refine PW.drawt [] [] mix (by kernel_rfl) fun K hK => ?_; simp (maxSteps := 3000000) (disch := omega) only [go_sem, ↓reduceIte, reduceCtorEq, pappend, plen]) | ((first | refine VO_cond (fun h => ?_) (fun h => ?_) | refine VOd_cond (fun h => ?_) (fun h => ?_) | refine VOg_cond (fun h => ?_) (fun h => ?_) | refine VOh_cond (fun h => ?_) (fun h => ?_) | refine VOi_cond (fun h => ?_) (fun h => ?_) | refine And.intro (fun h => ?_) (fun h => ?_)) <;> (try simp only [Bool.not_eq_true', Bool.not_eq_false', decide_eq_true_eq, decide_eq_false_iff_not] at h) <;> simp (maxSteps := 3000000) (disch := omega) only [go_sem, ↓reduceIte, reduceCtorEq, pappend, plen, h]) | (refine hK _ _ ?_; clear hK K) | (refine PW.cond (t := _) rfl (fun h => ?_) (fun h => ?_) <;> (try (cases h; done)) <;> (try simp only [Bool.not_eq_true', Bool.not_eq_false', decide_eq_true_eq, decide_eq_false_iff_not] at h))))
  all_goals ((refine PW.ret ⟨_, rfl, ?_⟩; first | refine .inl ⟨?_, rfl⟩ | refine Fin.base (.id' ?_ (.bool _)) | refine Fin.base (.id' ?_ (.int _ _))); rfl)
theorem part_ref (n : Nat) (H : Heap) (h : n < 6) : CallOk Try.prog 42 [.int .i64 (n : Int)] H (.int .i64 ((n - 3 : Nat) : Int)) H := by
  refine CallOk.body (F0 := [(0, .int .i64 (n : Int))]) Try.func42 rfl Try.ntmps42 Try.results42 rfl (by kernel_rfl) rfl ?_
  have h6 : n = 0 ∨ n = 1 ∨ n = 2 ∨ n = 3 ∨ n = 4 ∨ n = 5 := by omega
  rcases h6 with rfl | rfl | rfl | rfl | rfl | rfl <;> (repeat' (first | refine PW.seq ?_ | refine PW.skip ?_ | refine PW.block ?_ | (refine PW.rg rfl fun K hK => ?_; simp (maxSteps := 3000000) (disch := omega) only [go_sem, ↓reduceIte, reduceCtorEq, pappend, plen]) | (refine PW.draw mix (by kernel_rfl) fun K hK => ?_; simp (maxSteps := 3000000) (disch := omega) only [go_sem, ↓reduceIte, reduceCtorEq, pappend, plen]) | (refine PW.drawg mix (by kernel_rfl) fun K hK => ?_; simp (maxSteps := 3000000) (disch := omega) only [go_sem, ↓reduceIte, reduceCtorEq, pappend, plen]) | (refine PW.drawt [] [] mix (by kernel_rfl) fun K hK => ?_; simp (maxSteps := 3000000) (disch := omega) only [go_sem, ↓reduceIte, reduceCtorEq, pappend, plen]) | ((first | refine VO_cond (fun h => ?_) (fun h => ?_) | refine VOd_cond (fun h => ?_) (fun h => ?_) | refine VOg_cond (fun h => ?_) (fun h => ?_) | refine VOh_cond (fun h => ?_) (fun h => ?_) | refine VOi_cond (fun h => ?_) (fun h => ?_) | refine And.intro (fun h => ?_) (fun h => ?_)) <;> (try simp only [Bool.not_eq_true', Bool.not_eq_false', decide_eq_true_eq, decide_eq_false_iff_not] at h) <;> simp (maxSteps := 3000000) (disch := omega) only [go_sem, ↓reduceIte, reduceCtorEq, pappend, plen, h]) | (refine hK _ _ ?_; clear hK K) | (refine PW.cond (t := _) rfl (fun h => ?_) (fun h => ?_) <;> (try (cases h; done)) <;> (try simp only [Bool.not_eq_true', Bool.not_eq_false', decide_eq_true_eq, decide_eq_false_iff_not] at h))))
  all_goals ((refine PW.ret ⟨_, rfl, ?_⟩; first | refine .inl ⟨?_, rfl⟩ | refine Fin.base (.id' ?_ (.bool _)) | refine Fin.base (.id' ?_ (.int _ _))); rfl)
theorem flg_ref (b : Bool) (H : Heap) : CallOk Try.prog 38 [.bool b] H (.int .u8 (b.toNat : Int)) H := by
  refine CallOk.body (F0 := [(0, .bool b)]) Try.func38 rfl Try.ntmps38 Try.results38 rfl (by kernel_rfl) rfl ?_
  cases b <;> (repeat' (first | refine PW.seq ?_ | refine PW.skip ?_ | refine PW.block ?_ | (refine PW.rg rfl fun K hK => ?_; simp (maxSteps := 3000000) (disch := omega) only [go_sem, ↓reduceIte, reduceCtorEq, pappend, plen]) | (refine PW.draw mix (by kernel_rfl) fun K hK => ?_; simp (maxSteps := 3000000) (disch := omega) only [go_sem, ↓reduceIte, reduceCtorEq, pappend, plen]) | (refine PW.drawg mix (by kernel_rfl) fun K hK => ?_; simp (maxSteps := 3000000) (disch := omega) only [go_sem, ↓reduceIte, reduceCtorEq, pappend, plen]) | (refine PW.drawt [] [] mix (by kernel_rfl) fun K hK => ?_; simp (maxSteps := 3000000) (disch := omega) only [go_sem, ↓reduceIte, reduceCtorEq, pappend, plen]) | ((first | refine VO_cond (fun h => ?_) (fun h => ?_) | refine VOd_cond (fun h => ?_) (fun h => ?_) | refine VOg_cond (fun h => ?_) (fun h => ?_) | refine VOh_cond (fun h => ?_) (fun h => ?_) | refine VOi_cond (fun h => ?_) (fun h => ?_) | refine And.intro (fun h => ?_) (fun h => ?_)) <;> (try simp only [Bool.not_eq_true', Bool.not_eq_false', decide_eq_true_eq, decide_eq_false_iff_not] at h) <;> simp (maxSteps := 3000000) (disch := omega) only [go_sem, ↓reduceIte, reduceCtorEq, pappend, plen, h]) | (refine hK _ _ ?_; clear hK K) | (refine PW.cond (t := _) rfl (fun h => ?_) (fun h => ?_) <;> (try (cases h; done)) <;> (try simp only [Bool.not_eq_true', Bool.not_eq_false', decide_eq_true_eq, decide_eq_false_iff_not] at h))))
  all_goals ((refine PW.ret ⟨_, rfl, ?_⟩; first | refine .inl ⟨?_, rfl⟩ | refine Fin.base (.id' ?_ (.bool _)) | refine Fin.base (.id' ?_ (.int _ _))); rfl)
theorem vecs_ok (m : Mb) (i : Nat) (H : Heap) (hi : H[i]? = some (mB m)) : CallOk Try.prog 71 [.ptr i 0 0] H (.int .i64 (if m.fp then 2 else 1)) H := by
  refine CallOk.body (F0 := [(0, .ptr i 0 0)]) Try.func71 rfl Try.ntmps71 Try.results71 rfl (by kernel_rfl) rfl ?_
  (repeat' (first | refine PW.seq ?_ | refine PW.skip ?_ | refine PW.block ?_ | (refine PW.rg rfl fun K hK => ?_; simp (maxSteps := 3000000) (disch := omega) only [go_sem, ↓reduceIte, reduceCtorEq, pappend, plen, hi, mB, mbc]) | (refine PW.draw mix (by kernel_rfl) fun K hK => ?_; simp (maxSteps := 3000000) (disch := omega) only [go_sem, ↓reduceIte, reduceCtorEq, pappend, plen, hi, mB, mbc]) | (refine PW.drawg mix (by kernel_rfl) fun K hK => ?_; simp (maxSteps := 3000000) (disch := omega) only [go_sem, ↓reduceIte, reduceCtorEq, pappend, plen, hi, mB, mbc]) | (refine PW.drawt [] [] mix (by kernel_rfl) fun K hK => ?_; simp (maxSteps := 3000000) (disch := omega) only [go_sem, ↓reduceIte, reduceCtorEq, pappend, plen, hi, mB, mbc]) | ((first | refine VO_cond (fun h => ?_) (fun h => ?_) | refine VOd_cond (fun h => ?_) (fun h => ?_) | refine VOg_cond (fun h => ?_) (fun h => ?_) | refine VOh_cond (fun h => ?_) (fun h => ?_) | refine VOi_cond (fun h => ?_) (fun h => ?_) | refine And.intro (fun h => ?_) (fun h => ?_)) <;> (try simp only [Bool.not_eq_true', Bool.not_eq_false', decide_eq_true_eq, decide_eq_false_iff_not] at h) <;> simp (maxSteps := 3000000) (disch := omega) only [go_sem, ↓reduceIte, reduceCtorEq, pappend, plen, hi, mB, mbc, h]) | (refine hK _ _ ?_; clear hK K) | (refine PW.cond (t := _) rfl (fun h => ?_) (fun h => ?_) <;> (try (cases h; done)) <;> (try simp only [Bool.not_eq_true', Bool.not_eq_false', decide_eq_true_eq, decide_eq_false_iff_not] at h))))
  all_goals ((refine PW.ret ⟨_, rfl, ?_⟩; first | refine .inl ⟨?_, rfl⟩ | refine Fin.base (.id' ?_ (.bool _)) | refine Fin.base (.id' ?_ (.int _ _))); simp_all [slot, Nat.beq])
/-- The number of part 1. -/
def numM (c : Cx) (m : Mb) : Nat := if m.k = 1 then (if c.t = 2 then 3 else 7) else if m.k = 2 then (if m.ua && !m.ub then 1 else if !m.ua && m.ub then 3 else 5) + (hlM m).toNat else 0
theorem numM_b (c : Cx) (m : Mb) : numM c m ≤ 7 := by
  unfold numM; have : (hlM m).toNat ≤ 1 := by cases hlM m <;> decide
  split
  · split <;> omega
  · split
    · split
      · omega
      · split <;> omega
    · omega

end Go.Proofs.Ytcabpncdgagihaa.Sc

namespace Go.Proofs.Ytcabpncdgagihaa.Sc
set_option linter.all false
set_option linter.unusedVariables false
set_option linter.unusedSimpArgs false
open Pm Ty Go.RowKit

def pC (s : St) (w : Nat) (c : Cx) (mi : Nat) : List PV := [.int .i64 s.q, .int .i64 s.da, .int .i64 s.db, .int .i64 s.dc, .int .i64 s.va, .int .i64 s.vb, .int .i64 s.vc, .int .i64 s.vd, .ptr w 0 0, .int .i64 c.t, .int .i64 c.s, .bool c.i, .bool c.n, .ptr mi 0 0]
def pB (s : St) (w : Nat) (c : Cx) (mi : Nat) : Blk := ⟨89, 0, pC s w c mi⟩
/-- What Put has in memory: the writer's blocks with the bits M, and its own blocks. -/
def pH (H : Heap) (i j : Nat) (M : List Bool) (x0 x1 x3 : Blk) (c : Cx) (m : Mb) (s : St) : Heap := two H i j (wA j M) (wB M) ++ [x0, x1, mB m, x3, pB s i c (H.length + 2)]
section
variable (H : Heap) (i j : Nat) (M : List Bool) (x0 x1 x3 : Blk) (c : Cx) (m : Mb) (s : St)
theorem pH_len : (pH H i j M x0 x1 x3 c m s).length = H.length + 5 := by simp [pH, two_len]
theorem pH_i (hi : i < H.length) (hne : i ≠ j) : (pH H i j M x0 x1 x3 c m s)[i]? = some (wA j M) := two_Ki _ _ _ _ _ _ hi hne
theorem pH_2 : (pH H i j M x0 x1 x3 c m s)[H.length + 2]? = some (mB m) := by
  unfold pH; rw [List.getElem?_append_right (by rw [two_len]; omega), two_len, show H.length + 2 - H.length = 2 by omega]; rfl
theorem pH_4 : (pH H i j M x0 x1 x3 c m s)[H.length + 4]? = some (pB s i c (H.length + 2)) := by
  unfold pH; rw [List.getElem?_append_right (by rw [two_len]; omega), two_len, show H.length + 4 - H.length = 4 by omega]; rfl
theorem pH_set (B : Blk) : (pH H i j M x0 x1 x3 c m s).set (H.length + 4) B = two H i j (wA j M) (wB M) ++ [x0, x1, mB m, x3, B] := by
  unfold pH; rw [List.set_append_right _ _ (by rw [two_len]; omega), two_len, show H.length + 4 - H.length = 4 by omega]; rfl
theorem puP (v : Nat) (hi : i < H.length) (hj : j < H.length) (hne : i ≠ j) (hv : v ≤ 65534) (hl : M.length ≤ 900000000) :
    CallOk Try.prog 68 [.ptr i 0 0, .int .i64 (v : Int)] (pH H i j M x0 x1 x3 c m s) (.int .i64 0) (pH H i j (M ++ eg v) x0 x1 x3 c m s) := puK i j M v H _ hi hj hne hv hl
theorem psP (v : Int) (hi : i < H.length) (hj : j < H.length) (hne : i ≠ j) (hv : -32767 ≤ v ∧ v ≤ 32767) (hl : M.length ≤ 900000000) :
    CallOk Try.prog 73 [.ptr i 0 0, .int .i64 v] (pH H i j M x0 x1 x3 c m s) (.int .i64 0) (pH H i j (M ++ sg v) x0 x1 x3 c m s) := psK i j M v H _ hi hj hne hv hl
theorem putP (V n : Nat) (hi : i < H.length) (hj : j < H.length) (hne : i ≠ j) (hn : n ≤ 32) (hV : V / 2 ^ n = 0) (hl : M.length ≤ 900000000) :
    CallOk Try.prog 85 [.ptr i 0 0, .int .u32 (V : Int), .int .i64 (n : Int)] (pH H i j M x0 x1 x3 c m s) (.int .i64 0) (pH H i j (M ++ vbits V n) x0 x1 x3 c m s) := by
  have := put_ok i j M V n _ (two_Ki H i j (wA j M) (wB M) [x0, x1, mB m, x3, pB s i c (H.length + 2)] hi hne) (two_Kj H i j (wA j M) (wB M) [x0, x1, mB m, x3, pB s i c (H.length + 2)] hj) hne hn hV (by omega)
  rw [two_app _ _ _ _ _ _ (by rw [two_len]; exact hi) (by rw [two_len]; exact hj), two_two _ _ _ _ _ _ _ hne] at this
  exact this
end

theorem vbits1' (b : Bool) : vbits (if b then 1 else 0) 1 = [b] := by cases b <;> rfl
theorem flagP (H : Heap) (i j : Nat) (M : List Bool) (x0 x1 x3 : Blk) (c : Cx) (m : Mb) (s : St) (b : Bool) (hi : i < H.length) (hj : j < H.length) (hne : i ≠ j) (hl : M.length ≤ 900000000) :
    CallOk Try.prog 70 [.ptr (H.length + 4) 0 0, .bool b] (pH H i j M x0 x1 x3 c m s) (.tup []) (pH H i j (M ++ [b]) x0 x1 x3 c m s) := by
  have h4 := pH_4 H i j M x0 x1 x3 c m s
  have hp := putP H i j M x0 x1 x3 c m s (if b then 1 else 0) 1 hi hj hne (by omega) (by cases b <;> decide) hl
  rw [vbits1' b] at hp
  generalize pH H i j (M ++ [b]) x0 x1 x3 c m s = Hz at *
  refine CallOk.body (F0 := [(0, .ptr (H.length + 4) 0 0), (1, .bool b)]) Try.func70 rfl Try.ntmps70 Try.results70 rfl (by kernel_rfl) rfl ?_
  cases b
  · (repeat' (first | refine PW.seq ?_ | refine PW.skip ?_ | refine PW.block ?_ | (refine PW.rg rfl fun K hK => ?_; simp (maxSteps := 3000000) (disch := omega) only [go_sem, ↓reduceIte, reduceCtorEq, pappend, plen, h4, pB, pC]) | (refine PW.draw mix (by kernel_rfl) fun K hK => ?_; simp (maxSteps := 3000000) (disch := omega) only [go_sem, ↓reduceIte, reduceCtorEq, pappend, plen, h4, pB, pC]) | (refine PW.drawg mix (by kernel_rfl) fun K hK => ?_; simp (maxSteps := 3000000) (disch := omega) only [go_sem, ↓reduceIte, reduceCtorEq, pappend, plen, h4, pB, pC]) | (refine PW.drawt [] [] mix (by kernel_rfl) fun K hK => ?_; simp (maxSteps := 3000000) (disch := omega) only [go_sem, ↓reduceIte, reduceCtorEq, pappend, plen, h4, pB, pC]) | ((first | refine VO_cond (fun h => ?_) (fun h => ?_) | refine VOd_cond (fun h => ?_) (fun h => ?_) | refine VOg_cond (fun h => ?_) (fun h => ?_) | refine VOh_cond (fun h => ?_) (fun h => ?_) | refine VOi_cond (fun h => ?_) (fun h => ?_) | refine And.intro (fun h => ?_) (fun h => ?_)) <;> (try simp only [Bool.not_eq_true', Bool.not_eq_false', decide_eq_true_eq, decide_eq_false_iff_not] at h) <;> simp (maxSteps := 3000000) (disch := omega) only [go_sem, ↓reduceIte, reduceCtorEq, pappend, plen, h4, pB, pC, h]) | (refine VCx.call (hp) rfl ?_; simp (maxSteps := 3000000) (disch := omega) only [go_sem, ↓reduceIte, reduceCtorEq, pappend, plen, h4, pB, pC]) | (refine VCy.call (hp) rfl ?_; simp (maxSteps := 3000000) (disch := omega) only [go_sem, ↓reduceIte, reduceCtorEq, pappend, plen, h4, pB, pC]) | (refine VCz.call (fun _ => hp) rfl ?_; simp (maxSteps := 3000000) (disch := omega) only [go_sem, ↓reduceIte, reduceCtorEq, pappend, plen, h4, pB, pC]) | (refine VCk.call (fun _ _ => hp) rfl ?_; simp (maxSteps := 3000000) (disch := omega) only [go_sem, ↓reduceIte, reduceCtorEq, pappend, plen, h4, pB, pC]) | (refine VCj.now (hp) rfl ?_; simp (maxSteps := 3000000) (disch := omega) only [go_sem, ↓reduceIte, reduceCtorEq, pappend, plen, h4, pB, pC]) | (refine hK _ _ ?_; clear hK K) | (refine PW.cond (t := _) rfl (fun h => ?_) (fun h => ?_) <;> (try (cases h; done)) <;> (try simp only [Bool.not_eq_true', Bool.not_eq_false', decide_eq_true_eq, decide_eq_false_iff_not] at h))))
    exact Exists.intro _ (And.intro rfl Fin.now)
  · (repeat' (first | refine PW.seq ?_ | refine PW.skip ?_ | refine PW.block ?_ | (refine PW.rg rfl fun K hK => ?_; simp (maxSteps := 3000000) (disch := omega) only [go_sem, ↓reduceIte, reduceCtorEq, pappend, plen, h4, pB, pC]) | (refine PW.draw mix (by kernel_rfl) fun K hK => ?_; simp (maxSteps := 3000000) (disch := omega) only [go_sem, ↓reduceIte, reduceCtorEq, pappend, plen, h4, pB, pC]) | (refine PW.drawg mix (by kernel_rfl) fun K hK => ?_; simp (maxSteps := 3000000) (disch := omega) only [go_sem, ↓reduceIte, reduceCtorEq, pappend, plen, h4, pB, pC]) | (refine PW.drawt [] [] mix (by kernel_rfl) fun K hK => ?_; simp (maxSteps := 3000000) (disch := omega) only [go_sem, ↓reduceIte, reduceCtorEq, pappend, plen, h4, pB, pC]) | ((first | refine VO_cond (fun h => ?_) (fun h => ?_) | refine VOd_cond (fun h => ?_) (fun h => ?_) | refine VOg_cond (fun h => ?_) (fun h => ?_) | refine VOh_cond (fun h => ?_) (fun h => ?_) | refine VOi_cond (fun h => ?_) (fun h => ?_) | refine And.intro (fun h => ?_) (fun h => ?_)) <;> (try simp only [Bool.not_eq_true', Bool.not_eq_false', decide_eq_true_eq, decide_eq_false_iff_not] at h) <;> simp (maxSteps := 3000000) (disch := omega) only [go_sem, ↓reduceIte, reduceCtorEq, pappend, plen, h4, pB, pC, h]) | (refine VCx.call (hp) rfl ?_; simp (maxSteps := 3000000) (disch := omega) only [go_sem, ↓reduceIte, reduceCtorEq, pappend, plen, h4, pB, pC]) | (refine VCy.call (hp) rfl ?_; simp (maxSteps := 3000000) (disch := omega) only [go_sem, ↓reduceIte, reduceCtorEq, pappend, plen, h4, pB, pC]) | (refine VCz.call (fun _ => hp) rfl ?_; simp (maxSteps := 3000000) (disch := omega) only [go_sem, ↓reduceIte, reduceCtorEq, pappend, plen, h4, pB, pC]) | (refine VCk.call (fun _ _ => hp) rfl ?_; simp (maxSteps := 3000000) (disch := omega) only [go_sem, ↓reduceIte, reduceCtorEq, pappend, plen, h4, pB, pC]) | (refine VCj.now (hp) rfl ?_; simp (maxSteps := 3000000) (disch := omega) only [go_sem, ↓reduceIte, reduceCtorEq, pappend, plen, h4, pB, pC]) | (refine hK _ _ ?_; clear hK K) | (refine PW.cond (t := _) rfl (fun h => ?_) (fun h => ?_) <;> (try (cases h; done)) <;> (try simp only [Bool.not_eq_true', Bool.not_eq_false', decide_eq_true_eq, decide_eq_false_iff_not] at h))))
    exact Exists.intro _ (And.intro rfl Fin.now)

/-- Parts 1, 3, 4. -/
def b1M (c : Cx) (m : Mb) : List Bool := if c.t = 1 then [] else eg (numM c m)
def b3M (c : Cx) (m : Mb) : List Bool := if hlM m then (if bcx c then [m.fd] else []) ++ sg m.dl else []
def s3M (m : Mb) (s : St) : St := if hlM m then ⟨s.q + m.dl, s.da, s.db, s.dc, s.va, s.vb, s.vc, s.vd⟩ else s
def b4M (m : Mb) : List Bool := if decide (m.k = 2) && hlM m then cdl m else []

set_option maxHeartbeats 2000000 in
theorem kindP (H : Heap) (i j : Nat) (M : List Bool) (x0 x1 x3 : Blk) (c : Cx) (m : Mb) (s : St) (hi : i < H.length) (hj : j < H.length) (hne : i ≠ j) (hl : M.length ≤ 800000000) (hk : m.k = 0 ∨ m.k = 1 ∨ m.k = 2) :
    CallOk Try.prog 27 [.ptr (H.length + 4) 0 0] (pH H i j M x0 x1 x3 c m s) (.tup []) (pH H i j (M ++ b1M c m) x0 x1 x3 c m s) := by
  have h4 := pH_4 H i j M x0 x1 x3 c m s
  have h2 := pH_2 H i j M x0 x1 x3 c m s
  have ho := hl_ok m (H.length + 2) _ h2
  have k0 : (mbc m)[0]? = some (.int .i64 m.k) := rfl
  have k1 : List.take 2 (List.drop 1 (mbc m)) = [.bool m.ua, .bool m.ub] := rfl
  have hb1 : b1M c m = if c.t = 1 then [] else eg (numM c m) := rfl
  have hnu : numM c m = if m.k = 1 then (if c.t = 2 then 3 else 7) else if m.k = 2 then (if m.ua && !m.ub then 1 else if !m.ua && m.ub then 3 else 5) + (hlM m).toNat else 0 := rfl
  refine CallOk.body (F0 := [(0, .ptr (H.length + 4) 0 0)]) Try.func27 rfl Try.ntmps27 Try.results27 rfl (by kernel_rfl) rfl ?_
  by_cases ht1 : c.t = 1
  · rw [if_pos ht1] at hb1
    have q1 : (c.t == 1) = true := by simp [ht1]
    (repeat refine PW.seq ?_); refine PW.rg rfl fun K hK => ?_; simp (maxSteps := 3000000) (disch := omega) only [go_sem, ↓reduceIte, reduceCtorEq, pappend, plen, h4, pB, pC, q1]; refine hK _ _ ?_; clear hK K
    (repeat refine PW.seq ?_); refine PW.cond (t := _) rfl (fun h => ?_) (fun h => ?_)
    rotate_left
    · cases h
    refine PW.ret ?_
    rw [hb1, List.append_nil]
    exact Exists.intro _ (And.intro rfl Fin.now)
  rw [if_neg ht1] at hb1
  have q1 : (c.t == 1) = false := by simp [ht1]
  (repeat refine PW.seq ?_); refine PW.rg rfl fun K hK => ?_; simp (maxSteps := 3000000) (disch := omega) only [go_sem, ↓reduceIte, reduceCtorEq, pappend, plen, h4, pB, pC, q1]; refine hK _ _ ?_; clear hK K
  (repeat refine PW.seq ?_); refine PW.cond (t := _) rfl (fun h => ?_) (fun h => ?_)
  · cases h
  refine PW.skip ?_
  (repeat refine PW.seq ?_); refine PW.rg rfl fun K hK => ?_; simp (maxSteps := 3000000) (disch := omega) only [go_sem, ↓reduceIte, reduceCtorEq, pappend, plen]; refine hK _ _ ?_; clear hK K
  have fin : ∀ n : Nat, n = numM c m → n ≤ 7 → CallOk Try.prog 68 [.ptr i 0 0, .int .i64 (n : Int)] (pH H i j M x0 x1 x3 c m s) (.int .i64 0) (pH H i j (M ++ b1M c m) x0 x1 x3 c m s) := fun n hn h7 => by
    rw [hb1, ← hn]; exact puP H i j M x0 x1 x3 c m s n hi hj hne (by omega) (by omega)
  rcases hk with hk | hk | hk
  · have q2 : (m.k == 1) = false := by simp [hk]
    have q3 : (m.k == 2) = false := by simp [hk]
    rw [hk, if_neg (by omega), if_neg (by omega)] at hnu
    (repeat' (first | refine PW.seq ?_ | refine PW.skip ?_ | refine PW.block ?_ | (refine PW.rg rfl fun K hK => ?_; simp (maxSteps := 3000000) (disch := omega) only [go_sem, ↓reduceIte, reduceCtorEq, pappend, plen, h4, h2, pB, pC, mB, k0, k1, q2, q3]) | (refine PW.draw mix (by kernel_rfl) fun K hK => ?_; simp (maxSteps := 3000000) (disch := omega) only [go_sem, ↓reduceIte, reduceCtorEq, pappend, plen, h4, h2, pB, pC, mB, k0, k1, q2, q3]) | (refine PW.drawg mix (by kernel_rfl) fun K hK => ?_; simp (maxSteps := 3000000) (disch := omega) only [go_sem, ↓reduceIte, reduceCtorEq, pappend, plen, h4, h2, pB, pC, mB, k0, k1, q2, q3]) | (refine PW.drawt [] [] mix (by kernel_rfl) fun K hK => ?_; simp (maxSteps := 3000000) (disch := omega) only [go_sem, ↓reduceIte, reduceCtorEq, pappend, plen, h4, h2, pB, pC, mB, k0, k1, q2, q3]) | ((first | refine VO_cond (fun h => ?_) (fun h => ?_) | refine VOd_cond (fun h => ?_) (fun h => ?_) | refine VOg_cond (fun h => ?_) (fun h => ?_) | refine VOh_cond (fun h => ?_) (fun h => ?_) | refine VOi_cond (fun h => ?_) (fun h => ?_) | refine And.intro (fun h => ?_) (fun h => ?_)) <;> (try simp only [Bool.not_eq_true', Bool.not_eq_false', decide_eq_true_eq, decide_eq_false_iff_not] at h) <;> simp (maxSteps := 3000000) (disch := omega) only [go_sem, ↓reduceIte, reduceCtorEq, pappend, plen, h4, h2, pB, pC, mB, k0, k1, q2, q3, h]) | (refine VCx.call (fin 0 hnu.symm (by omega)) rfl ?_; simp (maxSteps := 3000000) (disch := omega) only [go_sem, ↓reduceIte, reduceCtorEq, pappend, plen, h4, h2, pB, pC, mB, k0, k1, q2, q3]) | (refine VCy.call (fin 0 hnu.symm (by omega)) rfl ?_; simp (maxSteps := 3000000) (disch := omega) only [go_sem, ↓reduceIte, reduceCtorEq, pappend, plen, h4, h2, pB, pC, mB, k0, k1, q2, q3]) | (refine VCz.call (fun _ => fin 0 hnu.symm (by omega)) rfl ?_; simp (maxSteps := 3000000) (disch := omega) only [go_sem, ↓reduceIte, reduceCtorEq, pappend, plen, h4, h2, pB, pC, mB, k0, k1, q2, q3]) | (refine VCk.call (fun _ _ => fin 0 hnu.symm (by omega)) rfl ?_; simp (maxSteps := 3000000) (disch := omega) only [go_sem, ↓reduceIte, reduceCtorEq, pappend, plen, h4, h2, pB, pC, mB, k0, k1, q2, q3]) | (refine VCj.now (fin 0 hnu.symm (by omega)) rfl ?_; simp (maxSteps := 3000000) (disch := omega) only [go_sem, ↓reduceIte, reduceCtorEq, pappend, plen, h4, h2, pB, pC, mB, k0, k1, q2, q3]) | (refine hK _ _ ?_; clear hK K) | (refine PW.cond (t := _) rfl (fun h => ?_) (fun h => ?_) <;> (try (cases h; done)) <;> (try simp only [Bool.not_eq_true', Bool.not_eq_false', decide_eq_true_eq, decide_eq_false_iff_not] at h))))
    exact Exists.intro _ (And.intro rfl Fin.now)
  · have q2 : (m.k == 1) = true := by simp [hk]
    rw [if_pos hk] at hnu
    by_cases ht2 : c.t = 2
    · have q4 : (c.t == 2) = true := by simp [ht2]
      rw [if_pos ht2] at hnu
      (repeat' (first | refine PW.seq ?_ | refine PW.skip ?_ | refine PW.block ?_ | (refine PW.rg rfl fun K hK => ?_; simp (maxSteps := 3000000) (disch := omega) only [go_sem, ↓reduceIte, reduceCtorEq, pappend, plen, h4, h2, pB, pC, mB, k0, k1, q2, q4]) | (refine PW.draw mix (by kernel_rfl) fun K hK => ?_; simp (maxSteps := 3000000) (disch := omega) only [go_sem, ↓reduceIte, reduceCtorEq, pappend, plen, h4, h2, pB, pC, mB, k0, k1, q2, q4]) | (refine PW.drawg mix (by kernel_rfl) fun K hK => ?_; simp (maxSteps := 3000000) (disch := omega) only [go_sem, ↓reduceIte, reduceCtorEq, pappend, plen, h4, h2, pB, pC, mB, k0, k1, q2, q4]) | (refine PW.drawt [] [] mix (by kernel_rfl) fun K hK => ?_; simp (maxSteps := 3000000) (disch := omega) only [go_sem, ↓reduceIte, reduceCtorEq, pappend, plen, h4, h2, pB, pC, mB, k0, k1, q2, q4]) | ((first | refine VO_cond (fun h => ?_) (fun h => ?_) | refine VOd_cond (fun h => ?_) (fun h => ?_) | refine VOg_cond (fun h => ?_) (fun h => ?_) | refine VOh_cond (fun h => ?_) (fun h => ?_) | refine VOi_cond (fun h => ?_) (fun h => ?_) | refine And.intro (fun h => ?_) (fun h => ?_)) <;> (try simp only [Bool.not_eq_true', Bool.not_eq_false', decide_eq_true_eq, decide_eq_false_iff_not] at h) <;> simp (maxSteps := 3000000) (disch := omega) only [go_sem, ↓reduceIte, reduceCtorEq, pappend, plen, h4, h2, pB, pC, mB, k0, k1, q2, q4, h]) | (refine VCx.call (fin 3 hnu.symm (by omega)) rfl ?_; simp (maxSteps := 3000000) (disch := omega) only [go_sem, ↓reduceIte, reduceCtorEq, pappend, plen, h4, h2, pB, pC, mB, k0, k1, q2, q4]) | (refine VCy.call (fin 3 hnu.symm (by omega)) rfl ?_; simp (maxSteps := 3000000) (disch := omega) only [go_sem, ↓reduceIte, reduceCtorEq, pappend, plen, h4, h2, pB, pC, mB, k0, k1, q2, q4]) | (refine VCz.call (fun _ => fin 3 hnu.symm (by omega)) rfl ?_; simp (maxSteps := 3000000) (disch := omega) only [go_sem, ↓reduceIte, reduceCtorEq, pappend, plen, h4, h2, pB, pC, mB, k0, k1, q2, q4]) | (refine VCk.call (fun _ _ => fin 3 hnu.symm (by omega)) rfl ?_; simp (maxSteps := 3000000) (disch := omega) only [go_sem, ↓reduceIte, reduceCtorEq, pappend, plen, h4, h2, pB, pC, mB, k0, k1, q2, q4]) | (refine VCj.now (fin 3 hnu.symm (by omega)) rfl ?_; simp (maxSteps := 3000000) (disch := omega) only [go_sem, ↓reduceIte, reduceCtorEq, pappend, plen, h4, h2, pB, pC, mB, k0, k1, q2, q4]) | (refine hK _ _ ?_; clear hK K) | (refine PW.cond (t := _) rfl (fun h => ?_) (fun h => ?_) <;> (try (cases h; done)) <;> (try simp only [Bool.not_eq_true', Bool.not_eq_false', decide_eq_true_eq, decide_eq_false_iff_not] at h))))
      exact Exists.intro _ (And.intro rfl Fin.now)
    · have q4 : (c.t == 2) = false := by simp [ht2]
      rw [if_neg ht2] at hnu
      (repeat' (first | refine PW.seq ?_ | refine PW.skip ?_ | refine PW.block ?_ | (refine PW.rg rfl fun K hK => ?_; simp (maxSteps := 3000000) (disch := omega) only [go_sem, ↓reduceIte, reduceCtorEq, pappend, plen, h4, h2, pB, pC, mB, k0, k1, q2, q4]) | (refine PW.draw mix (by kernel_rfl) fun K hK => ?_; simp (maxSteps := 3000000) (disch := omega) only [go_sem, ↓reduceIte, reduceCtorEq, pappend, plen, h4, h2, pB, pC, mB, k0, k1, q2, q4]) | (refine PW.drawg mix (by kernel_rfl) fun K hK => ?_; simp (maxSteps := 3000000) (disch := omega) only [go_sem, ↓reduceIte, reduceCtorEq, pappend, plen, h4, h2, pB, pC, mB, k0, k1, q2, q4]) | (refine PW.drawt [] [] mix (by kernel_rfl) fun K hK => ?_; simp (maxSteps := 3000000) (disch := omega) only [go_sem, ↓reduceIte, reduceCtorEq, pappend, plen, h4, h2, pB, pC, mB, k0, k1, q2, q4]) | ((first | refine VO_cond (fun h => ?_) (fun h => ?_) | refine VOd_cond (fun h => ?_) (fun h => ?_) | refine VOg_cond (fun h => ?_) (fun h => ?_) | refine VOh_cond (fun h => ?_) (fun h => ?_) | refine VOi_cond (fun h => ?_) (fun h => ?_) | refine And.intro (fun h => ?_) (fun h => ?_)) <;> (try simp only [Bool.not_eq_true', Bool.not_eq_false', decide_eq_true_eq, decide_eq_false_iff_not] at h) <;> simp (maxSteps := 3000000) (disch := omega) only [go_sem, ↓reduceIte, reduceCtorEq, pappend, plen, h4, h2, pB, pC, mB, k0, k1, q2, q4, h]) | (refine VCx.call (fin 7 hnu.symm (by omega)) rfl ?_; simp (maxSteps := 3000000) (disch := omega) only [go_sem, ↓reduceIte, reduceCtorEq, pappend, plen, h4, h2, pB, pC, mB, k0, k1, q2, q4]) | (refine VCy.call (fin 7 hnu.symm (by omega)) rfl ?_; simp (maxSteps := 3000000) (disch := omega) only [go_sem, ↓reduceIte, reduceCtorEq, pappend, plen, h4, h2, pB, pC, mB, k0, k1, q2, q4]) | (refine VCz.call (fun _ => fin 7 hnu.symm (by omega)) rfl ?_; simp (maxSteps := 3000000) (disch := omega) only [go_sem, ↓reduceIte, reduceCtorEq, pappend, plen, h4, h2, pB, pC, mB, k0, k1, q2, q4]) | (refine VCk.call (fun _ _ => fin 7 hnu.symm (by omega)) rfl ?_; simp (maxSteps := 3000000) (disch := omega) only [go_sem, ↓reduceIte, reduceCtorEq, pappend, plen, h4, h2, pB, pC, mB, k0, k1, q2, q4]) | (refine VCj.now (fin 7 hnu.symm (by omega)) rfl ?_; simp (maxSteps := 3000000) (disch := omega) only [go_sem, ↓reduceIte, reduceCtorEq, pappend, plen, h4, h2, pB, pC, mB, k0, k1, q2, q4]) | (refine hK _ _ ?_; clear hK K) | (refine PW.cond (t := _) rfl (fun h => ?_) (fun h => ?_) <;> (try (cases h; done)) <;> (try simp only [Bool.not_eq_true', Bool.not_eq_false', decide_eq_true_eq, decide_eq_false_iff_not] at h))))
      exact Exists.intro _ (And.intro rfl Fin.now)
  · have q2 : (m.k == 1) = false := by simp [hk]
    have q3 : (m.k == 2) = true := by simp [hk]
    rw [if_neg (by omega), if_pos hk] at hnu
    obtain ⟨a, ha⟩ : ∃ a, m.ua = a := ⟨_, rfl⟩
    obtain ⟨b, hb⟩ : ∃ b, m.ub = b := ⟨_, rfl⟩
    rw [ha, hb] at hnu k1
    clear ha hb
    generalize hlM m = hv at *
    cases a <;> cases b <;> cases hv
    · have fn := fin 5 (by rw [hnu]; rfl) (by omega)
      (repeat' (first | refine PW.seq ?_ | refine PW.skip ?_ | refine PW.block ?_ | (refine PW.rg rfl fun K hK => ?_; simp (maxSteps := 3000000) (disch := omega) only [go_sem, ↓reduceIte, reduceCtorEq, pappend, plen, h4, h2, pB, pC, mB, k0, k1, q2, q3]) | (refine PW.draw mix (by kernel_rfl) fun K hK => ?_; simp (maxSteps := 3000000) (disch := omega) only [go_sem, ↓reduceIte, reduceCtorEq, pappend, plen, h4, h2, pB, pC, mB, k0, k1, q2, q3]) | (refine PW.drawg mix (by kernel_rfl) fun K hK => ?_; simp (maxSteps := 3000000) (disch := omega) only [go_sem, ↓reduceIte, reduceCtorEq, pappend, plen, h4, h2, pB, pC, mB, k0, k1, q2, q3]) | (refine PW.drawt [] [] mix (by kernel_rfl) fun K hK => ?_; simp (maxSteps := 3000000) (disch := omega) only [go_sem, ↓reduceIte, reduceCtorEq, pappend, plen, h4, h2, pB, pC, mB, k0, k1, q2, q3]) | ((first | refine VO_cond (fun h => ?_) (fun h => ?_) | refine VOd_cond (fun h => ?_) (fun h => ?_) | refine VOg_cond (fun h => ?_) (fun h => ?_) | refine VOh_cond (fun h => ?_) (fun h => ?_) | refine VOi_cond (fun h => ?_) (fun h => ?_) | refine And.intro (fun h => ?_) (fun h => ?_)) <;> (try simp only [Bool.not_eq_true', Bool.not_eq_false', decide_eq_true_eq, decide_eq_false_iff_not] at h) <;> simp (maxSteps := 3000000) (disch := omega) only [go_sem, ↓reduceIte, reduceCtorEq, pappend, plen, h4, h2, pB, pC, mB, k0, k1, q2, q3, h]) | (refine VCx.call (ho) rfl ?_; simp (maxSteps := 3000000) (disch := omega) only [go_sem, ↓reduceIte, reduceCtorEq, pappend, plen, h4, h2, pB, pC, mB, k0, k1, q2, q3]) | (refine VCx.call (fn) rfl ?_; simp (maxSteps := 3000000) (disch := omega) only [go_sem, ↓reduceIte, reduceCtorEq, pappend, plen, h4, h2, pB, pC, mB, k0, k1, q2, q3]) | (refine VCy.call (ho) rfl ?_; simp (maxSteps := 3000000) (disch := omega) only [go_sem, ↓reduceIte, reduceCtorEq, pappend, plen, h4, h2, pB, pC, mB, k0, k1, q2, q3]) | (refine VCy.call (fn) rfl ?_; simp (maxSteps := 3000000) (disch := omega) only [go_sem, ↓reduceIte, reduceCtorEq, pappend, plen, h4, h2, pB, pC, mB, k0, k1, q2, q3]) | (refine VCz.call (fun _ => ho) rfl ?_; simp (maxSteps := 3000000) (disch := omega) only [go_sem, ↓reduceIte, reduceCtorEq, pappend, plen, h4, h2, pB, pC, mB, k0, k1, q2, q3]) | (refine VCz.call (fun _ => fn) rfl ?_; simp (maxSteps := 3000000) (disch := omega) only [go_sem, ↓reduceIte, reduceCtorEq, pappend, plen, h4, h2, pB, pC, mB, k0, k1, q2, q3]) | (refine VCk.call (fun _ _ => ho) rfl ?_; simp (maxSteps := 3000000) (disch := omega) only [go_sem, ↓reduceIte, reduceCtorEq, pappend, plen, h4, h2, pB, pC, mB, k0, k1, q2, q3]) | (refine VCk.call (fun _ _ => fn) rfl ?_; simp (maxSteps := 3000000) (disch := omega) only [go_sem, ↓reduceIte, reduceCtorEq, pappend, plen, h4, h2, pB, pC, mB, k0, k1, q2, q3]) | (refine VCj.now (ho) rfl ?_; simp (maxSteps := 3000000) (disch := omega) only [go_sem, ↓reduceIte, reduceCtorEq, pappend, plen, h4, h2, pB, pC, mB, k0, k1, q2, q3]) | (refine VCj.now (fn) rfl ?_; simp (maxSteps := 3000000) (disch := omega) only [go_sem, ↓reduceIte, reduceCtorEq, pappend, plen, h4, h2, pB, pC, mB, k0, k1, q2, q3]) | (refine hK _ _ ?_; clear hK K) | (refine PW.cond (t := _) rfl (fun h => ?_) (fun h => ?_) <;> (try (cases h; done)) <;> (try simp only [Bool.not_eq_true', Bool.not_eq_false', decide_eq_true_eq, decide_eq_false_iff_not] at h))))
      exact Exists.intro _ (And.intro rfl Fin.now)
    · have fn := fin 6 (by rw [hnu]; rfl) (by omega)
      (repeat' (first | refine PW.seq ?_ | refine PW.skip ?_ | refine PW.block ?_ | (refine PW.rg rfl fun K hK => ?_; simp (maxSteps := 3000000) (disch := omega) only [go_sem, ↓reduceIte, reduceCtorEq, pappend, plen, h4, h2, pB, pC, mB, k0, k1, q2, q3]) | (refine PW.draw mix (by kernel_rfl) fun K hK => ?_; simp (maxSteps := 3000000) (disch := omega) only [go_sem, ↓reduceIte, reduceCtorEq, pappend, plen, h4, h2, pB, pC, mB, k0, k1, q2, q3]) | (refine PW.drawg mix (by kernel_rfl) fun K hK => ?_; simp (maxSteps := 3000000) (disch := omega) only [go_sem, ↓reduceIte, reduceCtorEq, pappend, plen, h4, h2, pB, pC, mB, k0, k1, q2, q3]) | (refine PW.drawt [] [] mix (by kernel_rfl) fun K hK => ?_; simp (maxSteps := 3000000) (disch := omega) only [go_sem, ↓reduceIte, reduceCtorEq, pappend, plen, h4, h2, pB, pC, mB, k0, k1, q2, q3]) | ((first | refine VO_cond (fun h => ?_) (fun h => ?_) | refine VOd_cond (fun h => ?_) (fun h => ?_) | refine VOg_cond (fun h => ?_) (fun h => ?_) | refine VOh_cond (fun h => ?_) (fun h => ?_) | refine VOi_cond (fun h => ?_) (fun h => ?_) | refine And.intro (fun h => ?_) (fun h => ?_)) <;> (try simp only [Bool.not_eq_true', Bool.not_eq_false', decide_eq_true_eq, decide_eq_false_iff_not] at h) <;> simp (maxSteps := 3000000) (disch := omega) only [go_sem, ↓reduceIte, reduceCtorEq, pappend, plen, h4, h2, pB, pC, mB, k0, k1, q2, q3, h]) | (refine VCx.call (ho) rfl ?_; simp (maxSteps := 3000000) (disch := omega) only [go_sem, ↓reduceIte, reduceCtorEq, pappend, plen, h4, h2, pB, pC, mB, k0, k1, q2, q3]) | (refine VCx.call (fn) rfl ?_; simp (maxSteps := 3000000) (disch := omega) only [go_sem, ↓reduceIte, reduceCtorEq, pappend, plen, h4, h2, pB, pC, mB, k0, k1, q2, q3]) | (refine VCy.call (ho) rfl ?_; simp (maxSteps := 3000000) (disch := omega) only [go_sem, ↓reduceIte, reduceCtorEq, pappend, plen, h4, h2, pB, pC, mB, k0, k1, q2, q3]) | (refine VCy.call (fn) rfl ?_; simp (maxSteps := 3000000) (disch := omega) only [go_sem, ↓reduceIte, reduceCtorEq, pappend, plen, h4, h2, pB, pC, mB, k0, k1, q2, q3]) | (refine VCz.call (fun _ => ho) rfl ?_; simp (maxSteps := 3000000) (disch := omega) only [go_sem, ↓reduceIte, reduceCtorEq, pappend, plen, h4, h2, pB, pC, mB, k0, k1, q2, q3]) | (refine VCz.call (fun _ => fn) rfl ?_; simp (maxSteps := 3000000) (disch := omega) only [go_sem, ↓reduceIte, reduceCtorEq, pappend, plen, h4, h2, pB, pC, mB, k0, k1, q2, q3]) | (refine VCk.call (fun _ _ => ho) rfl ?_; simp (maxSteps := 3000000) (disch := omega) only [go_sem, ↓reduceIte, reduceCtorEq, pappend, plen, h4, h2, pB, pC, mB, k0, k1, q2, q3]) | (refine VCk.call (fun _ _ => fn) rfl ?_; simp (maxSteps := 3000000) (disch := omega) only [go_sem, ↓reduceIte, reduceCtorEq, pappend, plen, h4, h2, pB, pC, mB, k0, k1, q2, q3]) | (refine VCj.now (ho) rfl ?_; simp (maxSteps := 3000000) (disch := omega) only [go_sem, ↓reduceIte, reduceCtorEq, pappend, plen, h4, h2, pB, pC, mB, k0, k1, q2, q3]) | (refine VCj.now (fn) rfl ?_; simp (maxSteps := 3000000) (disch := omega) only [go_sem, ↓reduceIte, reduceCtorEq, pappend, plen, h4, h2, pB, pC, mB, k0, k1, q2, q3]) | (refine hK _ _ ?_; clear hK K) | (refine PW.cond (t := _) rfl (fun h => ?_) (fun h => ?_) <;> (try (cases h; done)) <;> (try simp only [Bool.not_eq_true', Bool.not_eq_false', decide_eq_true_eq, decide_eq_false_iff_not] at h))))
      exact Exists.intro _ (And.intro rfl Fin.now)
    · have fn := fin 3 (by rw [hnu]; rfl) (by omega)
      (repeat' (first | refine PW.seq ?_ | refine PW.skip ?_ | refine PW.block ?_ | (refine PW.rg rfl fun K hK => ?_; simp (maxSteps := 3000000) (disch := omega) only [go_sem, ↓reduceIte, reduceCtorEq, pappend, plen, h4, h2, pB, pC, mB, k0, k1, q2, q3]) | (refine PW.draw mix (by kernel_rfl) fun K hK => ?_; simp (maxSteps := 3000000) (disch := omega) only [go_sem, ↓reduceIte, reduceCtorEq, pappend, plen, h4, h2, pB, pC, mB, k0, k1, q2, q3]) | (refine PW.drawg mix (by kernel_rfl) fun K hK => ?_; simp (maxSteps := 3000000) (disch := omega) only [go_sem, ↓reduceIte, reduceCtorEq, pappend, plen, h4, h2, pB, pC, mB, k0, k1, q2, q3]) | (refine PW.drawt [] [] mix (by kernel_rfl) fun K hK => ?_; simp (maxSteps := 3000000) (disch := omega) only [go_sem, ↓reduceIte, reduceCtorEq, pappend, plen, h4, h2, pB, pC, mB, k0, k1, q2, q3]) | ((first | refine VO_cond (fun h => ?_) (fun h => ?_) | refine VOd_cond (fun h => ?_) (fun h => ?_) | refine VOg_cond (fun h => ?_) (fun h => ?_) | refine VOh_cond (fun h => ?_) (fun h => ?_) | refine VOi_cond (fun h => ?_) (fun h => ?_) | refine And.intro (fun h => ?_) (fun h => ?_)) <;> (try simp only [Bool.not_eq_true', Bool.not_eq_false', decide_eq_true_eq, decide_eq_false_iff_not] at h) <;> simp (maxSteps := 3000000) (disch := omega) only [go_sem, ↓reduceIte, reduceCtorEq, pappend, plen, h4, h2, pB, pC, mB, k0, k1, q2, q3, h]) | (refine VCx.call (ho) rfl ?_; simp (maxSteps := 3000000) (disch := omega) only [go_sem, ↓reduceIte, reduceCtorEq, pappend, plen, h4, h2, pB, pC, mB, k0, k1, q2, q3]) | (refine VCx.call (fn) rfl ?_; simp (maxSteps := 3000000) (disch := omega) only [go_sem, ↓reduceIte, reduceCtorEq, pappend, plen, h4, h2, pB, pC, mB, k0, k1, q2, q3]) | (refine VCy.call (ho) rfl ?_; simp (maxSteps := 3000000) (disch := omega) only [go_sem, ↓reduceIte, reduceCtorEq, pappend, plen, h4, h2, pB, pC, mB, k0, k1, q2, q3]) | (refine VCy.call (fn) rfl ?_; simp (maxSteps := 3000000) (disch := omega) only [go_sem, ↓reduceIte, reduceCtorEq, pappend, plen, h4, h2, pB, pC, mB, k0, k1, q2, q3]) | (refine VCz.call (fun _ => ho) rfl ?_; simp (maxSteps := 3000000) (disch := omega) only [go_sem, ↓reduceIte, reduceCtorEq, pappend, plen, h4, h2, pB, pC, mB, k0, k1, q2, q3]) | (refine VCz.call (fun _ => fn) rfl ?_; simp (maxSteps := 3000000) (disch := omega) only [go_sem, ↓reduceIte, reduceCtorEq, pappend, plen, h4, h2, pB, pC, mB, k0, k1, q2, q3]) | (refine VCk.call (fun _ _ => ho) rfl ?_; simp (maxSteps := 3000000) (disch := omega) only [go_sem, ↓reduceIte, reduceCtorEq, pappend, plen, h4, h2, pB, pC, mB, k0, k1, q2, q3]) | (refine VCk.call (fun _ _ => fn) rfl ?_; simp (maxSteps := 3000000) (disch := omega) only [go_sem, ↓reduceIte, reduceCtorEq, pappend, plen, h4, h2, pB, pC, mB, k0, k1, q2, q3]) | (refine VCj.now (ho) rfl ?_; simp (maxSteps := 3000000) (disch := omega) only [go_sem, ↓reduceIte, reduceCtorEq, pappend, plen, h4, h2, pB, pC, mB, k0, k1, q2, q3]) | (refine VCj.now (fn) rfl ?_; simp (maxSteps := 3000000) (disch := omega) only [go_sem, ↓reduceIte, reduceCtorEq, pappend, plen, h4, h2, pB, pC, mB, k0, k1, q2, q3]) | (refine hK _ _ ?_; clear hK K) | (refine PW.cond (t := _) rfl (fun h => ?_) (fun h => ?_) <;> (try (cases h; done)) <;> (try simp only [Bool.not_eq_true', Bool.not_eq_false', decide_eq_true_eq, decide_eq_false_iff_not] at h))))
      exact Exists.intro _ (And.intro rfl Fin.now)
    · have fn := fin 4 (by rw [hnu]; rfl) (by omega)
      (repeat' (first | refine PW.seq ?_ | refine PW.skip ?_ | refine PW.block ?_ | (refine PW.rg rfl fun K hK => ?_; simp (maxSteps := 3000000) (disch := omega) only [go_sem, ↓reduceIte, reduceCtorEq, pappend, plen, h4, h2, pB, pC, mB, k0, k1, q2, q3]) | (refine PW.draw mix (by kernel_rfl) fun K hK => ?_; simp (maxSteps := 3000000) (disch := omega) only [go_sem, ↓reduceIte, reduceCtorEq, pappend, plen, h4, h2, pB, pC, mB, k0, k1, q2, q3]) | (refine PW.drawg mix (by kernel_rfl) fun K hK => ?_; simp (maxSteps := 3000000) (disch := omega) only [go_sem, ↓reduceIte, reduceCtorEq, pappend, plen, h4, h2, pB, pC, mB, k0, k1, q2, q3]) | (refine PW.drawt [] [] mix (by kernel_rfl) fun K hK => ?_; simp (maxSteps := 3000000) (disch := omega) only [go_sem, ↓reduceIte, reduceCtorEq, pappend, plen, h4, h2, pB, pC, mB, k0, k1, q2, q3]) | ((first | refine VO_cond (fun h => ?_) (fun h => ?_) | refine VOd_cond (fun h => ?_) (fun h => ?_) | refine VOg_cond (fun h => ?_) (fun h => ?_) | refine VOh_cond (fun h => ?_) (fun h => ?_) | refine VOi_cond (fun h => ?_) (fun h => ?_) | refine And.intro (fun h => ?_) (fun h => ?_)) <;> (try simp only [Bool.not_eq_true', Bool.not_eq_false', decide_eq_true_eq, decide_eq_false_iff_not] at h) <;> simp (maxSteps := 3000000) (disch := omega) only [go_sem, ↓reduceIte, reduceCtorEq, pappend, plen, h4, h2, pB, pC, mB, k0, k1, q2, q3, h]) | (refine VCx.call (ho) rfl ?_; simp (maxSteps := 3000000) (disch := omega) only [go_sem, ↓reduceIte, reduceCtorEq, pappend, plen, h4, h2, pB, pC, mB, k0, k1, q2, q3]) | (refine VCx.call (fn) rfl ?_; simp (maxSteps := 3000000) (disch := omega) only [go_sem, ↓reduceIte, reduceCtorEq, pappend, plen, h4, h2, pB, pC, mB, k0, k1, q2, q3]) | (refine VCy.call (ho) rfl ?_; simp (maxSteps := 3000000) (disch := omega) only [go_sem, ↓reduceIte, reduceCtorEq, pappend, plen, h4, h2, pB, pC, mB, k0, k1, q2, q3]) | (refine VCy.call (fn) rfl ?_; simp (maxSteps := 3000000) (disch := omega) only [go_sem, ↓reduceIte, reduceCtorEq, pappend, plen, h4, h2, pB, pC, mB, k0, k1, q2, q3]) | (refine VCz.call (fun _ => ho) rfl ?_; simp (maxSteps := 3000000) (disch := omega) only [go_sem, ↓reduceIte, reduceCtorEq, pappend, plen, h4, h2, pB, pC, mB, k0, k1, q2, q3]) | (refine VCz.call (fun _ => fn) rfl ?_; simp (maxSteps := 3000000) (disch := omega) only [go_sem, ↓reduceIte, reduceCtorEq, pappend, plen, h4, h2, pB, pC, mB, k0, k1, q2, q3]) | (refine VCk.call (fun _ _ => ho) rfl ?_; simp (maxSteps := 3000000) (disch := omega) only [go_sem, ↓reduceIte, reduceCtorEq, pappend, plen, h4, h2, pB, pC, mB, k0, k1, q2, q3]) | (refine VCk.call (fun _ _ => fn) rfl ?_; simp (maxSteps := 3000000) (disch := omega) only [go_sem, ↓reduceIte, reduceCtorEq, pappend, plen, h4, h2, pB, pC, mB, k0, k1, q2, q3]) | (refine VCj.now (ho) rfl ?_; simp (maxSteps := 3000000) (disch := omega) only [go_sem, ↓reduceIte, reduceCtorEq, pappend, plen, h4, h2, pB, pC, mB, k0, k1, q2, q3]) | (refine VCj.now (fn) rfl ?_; simp (maxSteps := 3000000) (disch := omega) only [go_sem, ↓reduceIte, reduceCtorEq, pappend, plen, h4, h2, pB, pC, mB, k0, k1, q2, q3]) | (refine hK _ _ ?_; clear hK K) | (refine PW.cond (t := _) rfl (fun h => ?_) (fun h => ?_) <;> (try (cases h; done)) <;> (try simp only [Bool.not_eq_true', Bool.not_eq_false', decide_eq_true_eq, decide_eq_false_iff_not] at h))))
      exact Exists.intro _ (And.intro rfl Fin.now)
    · have fn := fin 1 (by rw [hnu]; rfl) (by omega)
      (repeat' (first | refine PW.seq ?_ | refine PW.skip ?_ | refine PW.block ?_ | (refine PW.rg rfl fun K hK => ?_; simp (maxSteps := 3000000) (disch := omega) only [go_sem, ↓reduceIte, reduceCtorEq, pappend, plen, h4, h2, pB, pC, mB, k0, k1, q2, q3]) | (refine PW.draw mix (by kernel_rfl) fun K hK => ?_; simp (maxSteps := 3000000) (disch := omega) only [go_sem, ↓reduceIte, reduceCtorEq, pappend, plen, h4, h2, pB, pC, mB, k0, k1, q2, q3]) | (refine PW.drawg mix (by kernel_rfl) fun K hK => ?_; simp (maxSteps := 3000000) (disch := omega) only [go_sem, ↓reduceIte, reduceCtorEq, pappend, plen, h4, h2, pB, pC, mB, k0, k1, q2, q3]) | (refine PW.drawt [] [] mix (by kernel_rfl) fun K hK => ?_; simp (maxSteps := 3000000) (disch := omega) only [go_sem, ↓reduceIte, reduceCtorEq, pappend, plen, h4, h2, pB, pC, mB, k0, k1, q2, q3]) | ((first | refine VO_cond (fun h => ?_) (fun h => ?_) | refine VOd_cond (fun h => ?_) (fun h => ?_) | refine VOg_cond (fun h => ?_) (fun h => ?_) | refine VOh_cond (fun h => ?_) (fun h => ?_) | refine VOi_cond (fun h => ?_) (fun h => ?_) | refine And.intro (fun h => ?_) (fun h => ?_)) <;> (try simp only [Bool.not_eq_true', Bool.not_eq_false', decide_eq_true_eq, decide_eq_false_iff_not] at h) <;> simp (maxSteps := 3000000) (disch := omega) only [go_sem, ↓reduceIte, reduceCtorEq, pappend, plen, h4, h2, pB, pC, mB, k0, k1, q2, q3, h]) | (refine VCx.call (ho) rfl ?_; simp (maxSteps := 3000000) (disch := omega) only [go_sem, ↓reduceIte, reduceCtorEq, pappend, plen, h4, h2, pB, pC, mB, k0, k1, q2, q3]) | (refine VCx.call (fn) rfl ?_; simp (maxSteps := 3000000) (disch := omega) only [go_sem, ↓reduceIte, reduceCtorEq, pappend, plen, h4, h2, pB, pC, mB, k0, k1, q2, q3]) | (refine VCy.call (ho) rfl ?_; simp (maxSteps := 3000000) (disch := omega) only [go_sem, ↓reduceIte, reduceCtorEq, pappend, plen, h4, h2, pB, pC, mB, k0, k1, q2, q3]) | (refine VCy.call (fn) rfl ?_; simp (maxSteps := 3000000) (disch := omega) only [go_sem, ↓reduceIte, reduceCtorEq, pappend, plen, h4, h2, pB, pC, mB, k0, k1, q2, q3]) | (refine VCz.call (fun _ => ho) rfl ?_; simp (maxSteps := 3000000) (disch := omega) only [go_sem, ↓reduceIte, reduceCtorEq, pappend, plen, h4, h2, pB, pC, mB, k0, k1, q2, q3]) | (refine VCz.call (fun _ => fn) rfl ?_; simp (maxSteps := 3000000) (disch := omega) only [go_sem, ↓reduceIte, reduceCtorEq, pappend, plen, h4, h2, pB, pC, mB, k0, k1, q2, q3]) | (refine VCk.call (fun _ _ => ho) rfl ?_; simp (maxSteps := 3000000) (disch := omega) only [go_sem, ↓reduceIte, reduceCtorEq, pappend, plen, h4, h2, pB, pC, mB, k0, k1, q2, q3]) | (refine VCk.call (fun _ _ => fn) rfl ?_; simp (maxSteps := 3000000) (disch := omega) only [go_sem, ↓reduceIte, reduceCtorEq, pappend, plen, h4, h2, pB, pC, mB, k0, k1, q2, q3]) | (refine VCj.now (ho) rfl ?_; simp (maxSteps := 3000000) (disch := omega) only [go_sem, ↓reduceIte, reduceCtorEq, pappend, plen, h4, h2, pB, pC, mB, k0, k1, q2, q3]) | (refine VCj.now (fn) rfl ?_; simp (maxSteps := 3000000) (disch := omega) only [go_sem, ↓reduceIte, reduceCtorEq, pappend, plen, h4, h2, pB, pC, mB, k0, k1, q2, q3]) | (refine hK _ _ ?_; clear hK K) | (refine PW.cond (t := _) rfl (fun h => ?_) (fun h => ?_) <;> (try (cases h; done)) <;> (try simp only [Bool.not_eq_true', Bool.not_eq_false', decide_eq_true_eq, decide_eq_false_iff_not] at h))))
      exact Exists.intro _ (And.intro rfl Fin.now)
    · have fn := fin 2 (by rw [hnu]; rfl) (by omega)
      (repeat' (first | refine PW.seq ?_ | refine PW.skip ?_ | refine PW.block ?_ | (refine PW.rg rfl fun K hK => ?_; simp (maxSteps := 3000000) (disch := omega) only [go_sem, ↓reduceIte, reduceCtorEq, pappend, plen, h4, h2, pB, pC, mB, k0, k1, q2, q3]) | (refine PW.draw mix (by kernel_rfl) fun K hK => ?_; simp (maxSteps := 3000000) (disch := omega) only [go_sem, ↓reduceIte, reduceCtorEq, pappend, plen, h4, h2, pB, pC, mB, k0, k1, q2, q3]) | (refine PW.drawg mix (by kernel_rfl) fun K hK => ?_; simp (maxSteps := 3000000) (disch := omega) only [go_sem, ↓reduceIte, reduceCtorEq, pappend, plen, h4, h2, pB, pC, mB, k0, k1, q2, q3]) | (refine PW.drawt [] [] mix (by kernel_rfl) fun K hK => ?_; simp (maxSteps := 3000000) (disch := omega) only [go_sem, ↓reduceIte, reduceCtorEq, pappend, plen, h4, h2, pB, pC, mB, k0, k1, q2, q3]) | ((first | refine VO_cond (fun h => ?_) (fun h => ?_) | refine VOd_cond (fun h => ?_) (fun h => ?_) | refine VOg_cond (fun h => ?_) (fun h => ?_) | refine VOh_cond (fun h => ?_) (fun h => ?_) | refine VOi_cond (fun h => ?_) (fun h => ?_) | refine And.intro (fun h => ?_) (fun h => ?_)) <;> (try simp only [Bool.not_eq_true', Bool.not_eq_false', decide_eq_true_eq, decide_eq_false_iff_not] at h) <;> simp (maxSteps := 3000000) (disch := omega) only [go_sem, ↓reduceIte, reduceCtorEq, pappend, plen, h4, h2, pB, pC, mB, k0, k1, q2, q3, h]) | (refine VCx.call (ho) rfl ?_; simp (maxSteps := 3000000) (disch := omega) only [go_sem, ↓reduceIte, reduceCtorEq, pappend, plen, h4, h2, pB, pC, mB, k0, k1, q2, q3]) | (refine VCx.call (fn) rfl ?_; simp (maxSteps := 3000000) (disch := omega) only [go_sem, ↓reduceIte, reduceCtorEq, pappend, plen, h4, h2, pB, pC, mB, k0, k1, q2, q3]) | (refine VCy.call (ho) rfl ?_; simp (maxSteps := 3000000) (disch := omega) only [go_sem, ↓reduceIte, reduceCtorEq, pappend, plen, h4, h2, pB, pC, mB, k0, k1, q2, q3]) | (refine VCy.call (fn) rfl ?_; simp (maxSteps := 3000000) (disch := omega) only [go_sem, ↓reduceIte, reduceCtorEq, pappend, plen, h4, h2, pB, pC, mB, k0, k1, q2, q3]) | (refine VCz.call (fun _ => ho) rfl ?_; simp (maxSteps := 3000000) (disch := omega) only [go_sem, ↓reduceIte, reduceCtorEq, pappend, plen, h4, h2, pB, pC, mB, k0, k1, q2, q3]) | (refine VCz.call (fun _ => fn) rfl ?_; simp (maxSteps := 3000000) (disch := omega) only [go_sem, ↓reduceIte, reduceCtorEq, pappend, plen, h4, h2, pB, pC, mB, k0, k1, q2, q3]) | (refine VCk.call (fun _ _ => ho) rfl ?_; simp (maxSteps := 3000000) (disch := omega) only [go_sem, ↓reduceIte, reduceCtorEq, pappend, plen, h4, h2, pB, pC, mB, k0, k1, q2, q3]) | (refine VCk.call (fun _ _ => fn) rfl ?_; simp (maxSteps := 3000000) (disch := omega) only [go_sem, ↓reduceIte, reduceCtorEq, pappend, plen, h4, h2, pB, pC, mB, k0, k1, q2, q3]) | (refine VCj.now (ho) rfl ?_; simp (maxSteps := 3000000) (disch := omega) only [go_sem, ↓reduceIte, reduceCtorEq, pappend, plen, h4, h2, pB, pC, mB, k0, k1, q2, q3]) | (refine VCj.now (fn) rfl ?_; simp (maxSteps := 3000000) (disch := omega) only [go_sem, ↓reduceIte, reduceCtorEq, pappend, plen, h4, h2, pB, pC, mB, k0, k1, q2, q3]) | (refine hK _ _ ?_; clear hK K) | (refine PW.cond (t := _) rfl (fun h => ?_) (fun h => ?_) <;> (try (cases h; done)) <;> (try simp only [Bool.not_eq_true', Bool.not_eq_false', decide_eq_true_eq, decide_eq_false_iff_not] at h))))
      exact Exists.intro _ (And.intro rfl Fin.now)
    · have fn := fin 5 (by rw [hnu]; rfl) (by omega)
      (repeat' (first | refine PW.seq ?_ | refine PW.skip ?_ | refine PW.block ?_ | (refine PW.rg rfl fun K hK => ?_; simp (maxSteps := 3000000) (disch := omega) only [go_sem, ↓reduceIte, reduceCtorEq, pappend, plen, h4, h2, pB, pC, mB, k0, k1, q2, q3]) | (refine PW.draw mix (by kernel_rfl) fun K hK => ?_; simp (maxSteps := 3000000) (disch := omega) only [go_sem, ↓reduceIte, reduceCtorEq, pappend, plen, h4, h2, pB, pC, mB, k0, k1, q2, q3]) | (refine PW.drawg mix (by kernel_rfl) fun K hK => ?_; simp (maxSteps := 3000000) (disch := omega) only [go_sem, ↓reduceIte, reduceCtorEq, pappend, plen, h4, h2, pB, pC, mB, k0, k1, q2, q3]) | (refine PW.drawt [] [] mix (by kernel_rfl) fun K hK => ?_; simp (maxSteps := 3000000) (disch := omega) only [go_sem, ↓reduceIte, reduceCtorEq, pappend, plen, h4, h2, pB, pC, mB, k0, k1, q2, q3]) | ((first | refine VO_cond (fun h => ?_) (fun h => ?_) | refine VOd_cond (fun h => ?_) (fun h => ?_) | refine VOg_cond (fun h => ?_) (fun h => ?_) | refine VOh_cond (fun h => ?_) (fun h => ?_) | refine VOi_cond (fun h => ?_) (fun h => ?_) | refine And.intro (fun h => ?_) (fun h => ?_)) <;> (try simp only [Bool.not_eq_true', Bool.not_eq_false', decide_eq_true_eq, decide_eq_false_iff_not] at h) <;> simp (maxSteps := 3000000) (disch := omega) only [go_sem, ↓reduceIte, reduceCtorEq, pappend, plen, h4, h2, pB, pC, mB, k0, k1, q2, q3, h]) | (refine VCx.call (ho) rfl ?_; simp (maxSteps := 3000000) (disch := omega) only [go_sem, ↓reduceIte, reduceCtorEq, pappend, plen, h4, h2, pB, pC, mB, k0, k1, q2, q3]) | (refine VCx.call (fn) rfl ?_; simp (maxSteps := 3000000) (disch := omega) only [go_sem, ↓reduceIte, reduceCtorEq, pappend, plen, h4, h2, pB, pC, mB, k0, k1, q2, q3]) | (refine VCy.call (ho) rfl ?_; simp (maxSteps := 3000000) (disch := omega) only [go_sem, ↓reduceIte, reduceCtorEq, pappend, plen, h4, h2, pB, pC, mB, k0, k1, q2, q3]) | (refine VCy.call (fn) rfl ?_; simp (maxSteps := 3000000) (disch := omega) only [go_sem, ↓reduceIte, reduceCtorEq, pappend, plen, h4, h2, pB, pC, mB, k0, k1, q2, q3]) | (refine VCz.call (fun _ => ho) rfl ?_; simp (maxSteps := 3000000) (disch := omega) only [go_sem, ↓reduceIte, reduceCtorEq, pappend, plen, h4, h2, pB, pC, mB, k0, k1, q2, q3]) | (refine VCz.call (fun _ => fn) rfl ?_; simp (maxSteps := 3000000) (disch := omega) only [go_sem, ↓reduceIte, reduceCtorEq, pappend, plen, h4, h2, pB, pC, mB, k0, k1, q2, q3]) | (refine VCk.call (fun _ _ => ho) rfl ?_; simp (maxSteps := 3000000) (disch := omega) only [go_sem, ↓reduceIte, reduceCtorEq, pappend, plen, h4, h2, pB, pC, mB, k0, k1, q2, q3]) | (refine VCk.call (fun _ _ => fn) rfl ?_; simp (maxSteps := 3000000) (disch := omega) only [go_sem, ↓reduceIte, reduceCtorEq, pappend, plen, h4, h2, pB, pC, mB, k0, k1, q2, q3]) | (refine VCj.now (ho) rfl ?_; simp (maxSteps := 3000000) (disch := omega) only [go_sem, ↓reduceIte, reduceCtorEq, pappend, plen, h4, h2, pB, pC, mB, k0, k1, q2, q3]) | (refine VCj.now (fn) rfl ?_; simp (maxSteps := 3000000) (disch := omega) only [go_sem, ↓reduceIte, reduceCtorEq, pappend, plen, h4, h2, pB, pC, mB, k0, k1, q2, q3]) | (refine hK _ _ ?_; clear hK K) | (refine PW.cond (t := _) rfl (fun h => ?_) (fun h => ?_) <;> (try (cases h; done)) <;> (try simp only [Bool.not_eq_true', Bool.not_eq_false', decide_eq_true_eq, decide_eq_false_iff_not] at h))))
      exact Exists.intro _ (And.intro rfl Fin.now)
    · have fn := fin 6 (by rw [hnu]; rfl) (by omega)
      (repeat' (first | refine PW.seq ?_ | refine PW.skip ?_ | refine PW.block ?_ | (refine PW.rg rfl fun K hK => ?_; simp (maxSteps := 3000000) (disch := omega) only [go_sem, ↓reduceIte, reduceCtorEq, pappend, plen, h4, h2, pB, pC, mB, k0, k1, q2, q3]) | (refine PW.draw mix (by kernel_rfl) fun K hK => ?_; simp (maxSteps := 3000000) (disch := omega) only [go_sem, ↓reduceIte, reduceCtorEq, pappend, plen, h4, h2, pB, pC, mB, k0, k1, q2, q3]) | (refine PW.drawg mix (by kernel_rfl) fun K hK => ?_; simp (maxSteps := 3000000) (disch := omega) only [go_sem, ↓reduceIte, reduceCtorEq, pappend, plen, h4, h2, pB, pC, mB, k0, k1, q2, q3]) | (refine PW.drawt [] [] mix (by kernel_rfl) fun K hK => ?_; simp (maxSteps := 3000000) (disch := omega) only [go_sem, ↓reduceIte, reduceCtorEq, pappend, plen, h4, h2, pB, pC, mB, k0, k1, q2, q3]) | ((first | refine VO_cond (fun h => ?_) (fun h => ?_) | refine VOd_cond (fun h => ?_) (fun h => ?_) | refine VOg_cond (fun h => ?_) (fun h => ?_) | refine VOh_cond (fun h => ?_) (fun h => ?_) | refine VOi_cond (fun h => ?_) (fun h => ?_) | refine And.intro (fun h => ?_) (fun h => ?_)) <;> (try simp only [Bool.not_eq_true', Bool.not_eq_false', decide_eq_true_eq, decide_eq_false_iff_not] at h) <;> simp (maxSteps := 3000000) (disch := omega) only [go_sem, ↓reduceIte, reduceCtorEq, pappend, plen, h4, h2, pB, pC, mB, k0, k1, q2, q3, h]) | (refine VCx.call (ho) rfl ?_; simp (maxSteps := 3000000) (disch := omega) only [go_sem, ↓reduceIte, reduceCtorEq, pappend, plen, h4, h2, pB, pC, mB, k0, k1, q2, q3]) | (refine VCx.call (fn) rfl ?_; simp (maxSteps := 3000000) (disch := omega) only [go_sem, ↓reduceIte, reduceCtorEq, pappend, plen, h4, h2, pB, pC, mB, k0, k1, q2, q3]) | (refine VCy.call (ho) rfl ?_; simp (maxSteps := 3000000) (disch := omega) only [go_sem, ↓reduceIte, reduceCtorEq, pappend, plen, h4, h2, pB, pC, mB, k0, k1, q2, q3]) | (refine VCy.call (fn) rfl ?_; simp (maxSteps := 3000000) (disch := omega) only [go_sem, ↓reduceIte, reduceCtorEq, pappend, plen, h4, h2, pB, pC, mB, k0, k1, q2, q3]) | (refine VCz.call (fun _ => ho) rfl ?_; simp (maxSteps := 3000000) (disch := omega) only [go_sem, ↓reduceIte, reduceCtorEq, pappend, plen, h4, h2, pB, pC, mB, k0, k1, q2, q3]) | (refine VCz.call (fun _ => fn) rfl ?_; simp (maxSteps := 3000000) (disch := omega) only [go_sem, ↓reduceIte, reduceCtorEq, pappend, plen, h4, h2, pB, pC, mB, k0, k1, q2, q3]) | (refine VCk.call (fun _ _ => ho) rfl ?_; simp (maxSteps := 3000000) (disch := omega) only [go_sem, ↓reduceIte, reduceCtorEq, pappend, plen, h4, h2, pB, pC, mB, k0, k1, q2, q3]) | (refine VCk.call (fun _ _ => fn) rfl ?_; simp (maxSteps := 3000000) (disch := omega) only [go_sem, ↓reduceIte, reduceCtorEq, pappend, plen, h4, h2, pB, pC, mB, k0, k1, q2, q3]) | (refine VCj.now (ho) rfl ?_; simp (maxSteps := 3000000) (disch := omega) only [go_sem, ↓reduceIte, reduceCtorEq, pappend, plen, h4, h2, pB, pC, mB, k0, k1, q2, q3]) | (refine VCj.now (fn) rfl ?_; simp (maxSteps := 3000000) (disch := omega) only [go_sem, ↓reduceIte, reduceCtorEq, pappend, plen, h4, h2, pB, pC, mB, k0, k1, q2, q3]) | (refine hK _ _ ?_; clear hK K) | (refine PW.cond (t := _) rfl (fun h => ?_) (fun h => ?_) <;> (try (cases h; done)) <;> (try simp only [Bool.not_eq_true', Bool.not_eq_false', decide_eq_true_eq, decide_eq_false_iff_not] at h))))
      exact Exists.intro _ (And.intro rfl Fin.now)

end Go.Proofs.Ytcabpncdgagihaa.Sc

namespace Go.Proofs.Ytcabpncdgagihaa.Sc
set_option linter.all false
set_option linter.unusedVariables false
set_option linter.unusedSimpArgs false
open Pm Ty Go.RowKit

theorem pC_setq (s : St) (w : Nat) (c : Cx) (mi : Nat) (x : Int) : (pC s w c mi).set 0 (.int .i64 x) = pC ⟨x, s.da, s.db, s.dc, s.va, s.vb, s.vc, s.vd⟩ w c mi := rfl
theorem chgP (H : Heap) (i j : Nat) (M : List Bool) (x0 x1 x3 : Blk) (c : Cx) (m : Mb) (s : St) (hi : i < H.length) (hj : j < H.length) (hne : i ≠ j) (hl : M.length ≤ 800000000) (hdl : -30 ≤ m.dl ∧ m.dl ≤ 30) (hq : 1 ≤ s.q ∧ s.q ≤ 31) :
    CallOk Try.prog 29 [.ptr (H.length + 4) 0 0] (pH H i j M x0 x1 x3 c m s) (.tup []) (pH H i j (M ++ b3M c m) x0 x1 x3 c m (s3M m s)) := by
  have h4 := fun M => pH_4 H i j M x0 x1 x3 c m s
  have h2 := fun M => pH_2 H i j M x0 x1 x3 c m s
  have ho := hl_ok m (H.length + 2) _ (h2 M)
  have bo := fun K => bcx_ok c K
  have fl := fun M b hl => flagP H i j M x0 x1 x3 c m s b hi hj hne hl
  have ps := fun M v hv hl => psP H i j M x0 x1 x3 c m s v hi hj hne hv hl
  have st := fun M B => pH_set H i j M x0 x1 x3 c m s B
  have k4 : (mbc m)[4]? = some (.bool m.fd) := rfl
  have k17 : (mbc m)[17]? = some (.int .i64 m.dl) := rfl
  have e3 : b3M c m = if hlM m then (if bcx c then [m.fd] else []) ++ sg m.dl else [] := rfl
  have es : s3M m s = if hlM m then ⟨s.q + m.dl, s.da, s.db, s.dc, s.va, s.vb, s.vc, s.vd⟩ else s := rfl
  generalize hlM m = hv at *
  generalize bcx c = bv at *
  refine CallOk.body (F0 := [(0, .ptr (H.length + 4) 0 0)]) Try.func29 rfl Try.ntmps29 Try.results29 rfl (by kernel_rfl) rfl ?_
  cases hv with
  | false =>
    rw [if_neg (by decide)] at e3 es
    rw [e3, es, List.append_nil]
    (repeat' (first | refine PW.seq ?_ | refine PW.skip ?_ | refine PW.block ?_ | (refine PW.rg rfl fun K hK => ?_; simp (maxSteps := 3000000) (disch := omega) only [go_sem, ↓reduceIte, reduceCtorEq, pappend, plen, h4, h2, pB, pC]) | (refine PW.draw mix (by kernel_rfl) fun K hK => ?_; simp (maxSteps := 3000000) (disch := omega) only [go_sem, ↓reduceIte, reduceCtorEq, pappend, plen, h4, h2, pB, pC]) | (refine PW.drawg mix (by kernel_rfl) fun K hK => ?_; simp (maxSteps := 3000000) (disch := omega) only [go_sem, ↓reduceIte, reduceCtorEq, pappend, plen, h4, h2, pB, pC]) | (refine PW.drawt [] [] mix (by kernel_rfl) fun K hK => ?_; simp (maxSteps := 3000000) (disch := omega) only [go_sem, ↓reduceIte, reduceCtorEq, pappend, plen, h4, h2, pB, pC]) | ((first | refine VO_cond (fun h => ?_) (fun h => ?_) | refine VOd_cond (fun h => ?_) (fun h => ?_) | refine VOg_cond (fun h => ?_) (fun h => ?_) | refine VOh_cond (fun h => ?_) (fun h => ?_) | refine VOi_cond (fun h => ?_) (fun h => ?_) | refine And.intro (fun h => ?_) (fun h => ?_)) <;> (try simp only [Bool.not_eq_true', Bool.not_eq_false', decide_eq_true_eq, decide_eq_false_iff_not] at h) <;> simp (maxSteps := 3000000) (disch := omega) only [go_sem, ↓reduceIte, reduceCtorEq, pappend, plen, h4, h2, pB, pC, h]) | (refine VCx.call (ho) rfl ?_; simp (maxSteps := 3000000) (disch := omega) only [go_sem, ↓reduceIte, reduceCtorEq, pappend, plen, h4, h2, pB, pC]) | (refine VCy.call (ho) rfl ?_; simp (maxSteps := 3000000) (disch := omega) only [go_sem, ↓reduceIte, reduceCtorEq, pappend, plen, h4, h2, pB, pC]) | (refine VCz.call (fun _ => ho) rfl ?_; simp (maxSteps := 3000000) (disch := omega) only [go_sem, ↓reduceIte, reduceCtorEq, pappend, plen, h4, h2, pB, pC]) | (refine VCk.call (fun _ _ => ho) rfl ?_; simp (maxSteps := 3000000) (disch := omega) only [go_sem, ↓reduceIte, reduceCtorEq, pappend, plen, h4, h2, pB, pC]) | (refine VCj.now (ho) rfl ?_; simp (maxSteps := 3000000) (disch := omega) only [go_sem, ↓reduceIte, reduceCtorEq, pappend, plen, h4, h2, pB, pC]) | (refine hK _ _ ?_; clear hK K) | (refine PW.cond (t := _) rfl (fun h => ?_) (fun h => ?_) <;> (try (cases h; done)) <;> (try simp only [Bool.not_eq_true', Bool.not_eq_false', decide_eq_true_eq, decide_eq_false_iff_not] at h))))
    exact PW.ret (Exists.intro _ (And.intro rfl Fin.now))
  | true =>
    rw [if_pos rfl] at e3 es
    suffices hrest : ∀ M1, M1 ++ sg m.dl = M ++ b3M c m → M1.length ≤ 800000001 → PW Try.prog _ _ [(0, .ptr (H.length + 4) 0 0)] (pH H i j M1 x0 x1 x3 c m s) _ by
      (repeat refine PW.seq ?_); refine PW.rg rfl fun K hK => ?_; simp (maxSteps := 3000000) (disch := omega) only [go_sem, ↓reduceIte, reduceCtorEq, pappend, plen, h4, pB, pC]; refine VCx.call (ho) rfl ?_; simp (maxSteps := 3000000) (disch := omega) only [go_sem, ↓reduceIte, reduceCtorEq, pappend, plen, h4, pB, pC]; refine hK _ _ ?_; clear hK K
      (repeat refine PW.seq ?_); refine PW.cond (t := _) rfl (fun h => ?_) (fun h => ?_)
      · cases h
      refine PW.skip ?_
      (repeat refine PW.seq ?_); refine PW.rg rfl fun K hK => ?_; simp (maxSteps := 3000000) (disch := omega) only [go_sem, ↓reduceIte, reduceCtorEq, pappend, plen, h4, pB, pC]; refine VCx.call (bo _) rfl ?_; simp (maxSteps := 3000000) (disch := omega) only [go_sem, ↓reduceIte, reduceCtorEq, pappend, plen, h4, pB, pC]; refine hK _ _ ?_; clear hK K
      cases bv with
      | false =>
        (repeat refine PW.seq ?_); refine PW.cond (t := _) rfl (fun h => ?_) (fun h => ?_)
        · cases h
        refine PW.skip ?_
        rw [if_neg (by decide), List.nil_append] at e3
        exact PW.at [0] (hrest M (by rw [e3]) (by omega)) rfl rfl
      | true =>
        (repeat refine PW.seq ?_); refine PW.cond (t := _) rfl (fun h => ?_) (fun h => ?_)
        rotate_left
        · cases h
        rw [if_pos rfl] at e3
        have fl1 := fl M m.fd (by omega)
        (repeat refine PW.seq ?_); refine PW.rg rfl fun K hK => ?_; simp (maxSteps := 3000000) (disch := omega) only [go_sem, ↓reduceIte, reduceCtorEq, pappend, plen, h4, pB, pC, h2, mB, k4]
        refine VCx.call (fl1) rfl ?_; simp (maxSteps := 3000000) (disch := omega) only [go_sem, ↓reduceIte, reduceCtorEq, pappend, plen]; refine hK _ _ ?_; clear hK K
        exact PW.at [0] (hrest (M ++ [m.fd]) (by rw [e3, List.append_assoc]) (by simp; omega)) rfl rfl
    intro M1 hM1 hl1
    have ps1 := ps M1 m.dl (by omega) (by omega)
    rw [hM1] at ps1
    (repeat refine PW.seq ?_); refine PW.drawt [] [] mix (by kernel_rfl) fun K hK => ?_; simp (maxSteps := 3000000) (disch := omega) only [go_sem, ↓reduceIte, reduceCtorEq, pappend, plen, h4, pB, pC, h2, mB, k17]
    refine VCj.now (ps1) rfl ?_; simp (maxSteps := 3000000) (disch := omega) only [go_sem, ↓reduceIte, reduceCtorEq, pappend, plen]; refine hK _ _ ?_; clear hK K
    (repeat refine PW.seq ?_); refine PW.drawt [] [] mix (by kernel_rfl) fun K hK => ?_; simp (maxSteps := 3000000) (disch := omega) only [go_sem, ↓reduceIte, reduceCtorEq, pappend, plen, h4, pB, pC, h2, mB, k17, st]; refine hK _ _ ?_; clear hK K
    rw [es]
    exact Exists.intro _ (And.intro rfl Fin.now)

theorem codP (H : Heap) (i j : Nat) (M : List Bool) (x0 x1 x3 : Blk) (c : Cx) (m : Mb) (s : St) (hi : i < H.length) (hj : j < H.length) (hne : i ≠ j) (hl : M.length ≤ 800000000) :
    CallOk Try.prog 30 [.ptr (H.length + 4) 0 0] (pH H i j M x0 x1 x3 c m s) (.tup []) (pH H i j (M ++ b4M m) x0 x1 x3 c m s) := by
  have h4 := fun M => pH_4 H i j M x0 x1 x3 c m s
  have h2 := fun M => pH_2 H i j M x0 x1 x3 c m s
  have ho := hl_ok m (H.length + 2) _ (h2 M)
  have fl := fun M b hl => flagP H i j M x0 x1 x3 c m s b hi hj hne hl
  have k0 : (mbc m)[0]? = some (.int .i64 m.k) := rfl
  have k18 : List.take 6 (List.drop 18 (mbc m)) = fs (cdl m) := rfl
  have hcl : (fs (cdl m)).length = 6 := rfl
  have hcl' : (cdl m).length = 6 := rfl
  have hca : (mbc m).length = 24 + (is m.lv).length := by simp [mbc]; omega
  have hfg := fun n (hn : n < 6) => fs_get (cdl m) n hn
  have e4 : b4M m = if decide (m.k = 2) && hlM m then cdl m else [] := rfl
  generalize hlM m = hv at *
  refine CallOk.body (F0 := [(0, .ptr (H.length + 4) 0 0)]) Try.func30 rfl Try.ntmps30 Try.results30 rfl (by kernel_rfl) rfl ?_
  by_cases hk : m.k = 2
  rotate_left
  · have q2 : (m.k != 2) = true := by simp [hk]
    rw [decide_eq_false hk, Bool.false_and, if_neg (by decide)] at e4
    rw [e4, List.append_nil]
    (repeat' (first | refine PW.seq ?_ | refine PW.skip ?_ | refine PW.block ?_ | (refine PW.rg rfl fun K hK => ?_; simp (maxSteps := 3000000) (disch := omega) only [go_sem, ↓reduceIte, reduceCtorEq, pappend, plen, h4, h2, pB, pC, mB, k0, q2]) | (refine PW.draw mix (by kernel_rfl) fun K hK => ?_; simp (maxSteps := 3000000) (disch := omega) only [go_sem, ↓reduceIte, reduceCtorEq, pappend, plen, h4, h2, pB, pC, mB, k0, q2]) | (refine PW.drawg mix (by kernel_rfl) fun K hK => ?_; simp (maxSteps := 3000000) (disch := omega) only [go_sem, ↓reduceIte, reduceCtorEq, pappend, plen, h4, h2, pB, pC, mB, k0, q2]) | (refine PW.drawt [] [] mix (by kernel_rfl) fun K hK => ?_; simp (maxSteps := 3000000) (disch := omega) only [go_sem, ↓reduceIte, reduceCtorEq, pappend, plen, h4, h2, pB, pC, mB, k0, q2]) | ((first | refine VO_cond (fun h => ?_) (fun h => ?_) | refine VOd_cond (fun h => ?_) (fun h => ?_) | refine VOg_cond (fun h => ?_) (fun h => ?_) | refine VOh_cond (fun h => ?_) (fun h => ?_) | refine VOi_cond (fun h => ?_) (fun h => ?_) | refine And.intro (fun h => ?_) (fun h => ?_)) <;> (try simp only [Bool.not_eq_true', Bool.not_eq_false', decide_eq_true_eq, decide_eq_false_iff_not] at h) <;> simp (maxSteps := 3000000) (disch := omega) only [go_sem, ↓reduceIte, reduceCtorEq, pappend, plen, h4, h2, pB, pC, mB, k0, q2, h]) | (refine VCx.call (ho) rfl ?_; simp (maxSteps := 3000000) (disch := omega) only [go_sem, ↓reduceIte, reduceCtorEq, pappend, plen, h4, h2, pB, pC, mB, k0, q2]) | (refine VCy.call (ho) rfl ?_; simp (maxSteps := 3000000) (disch := omega) only [go_sem, ↓reduceIte, reduceCtorEq, pappend, plen, h4, h2, pB, pC, mB, k0, q2]) | (refine VCz.call (fun _ => ho) rfl ?_; simp (maxSteps := 3000000) (disch := omega) only [go_sem, ↓reduceIte, reduceCtorEq, pappend, plen, h4, h2, pB, pC, mB, k0, q2]) | (refine VCk.call (fun _ _ => ho) rfl ?_; simp (maxSteps := 3000000) (disch := omega) only [go_sem, ↓reduceIte, reduceCtorEq, pappend, plen, h4, h2, pB, pC, mB, k0, q2]) | (refine VCj.now (ho) rfl ?_; simp (maxSteps := 3000000) (disch := omega) only [go_sem, ↓reduceIte, reduceCtorEq, pappend, plen, h4, h2, pB, pC, mB, k0, q2]) | (refine hK _ _ ?_; clear hK K) | (refine PW.cond (t := _) rfl (fun h => ?_) (fun h => ?_) <;> (try (cases h; done)) <;> (try simp only [Bool.not_eq_true', Bool.not_eq_false', decide_eq_true_eq, decide_eq_false_iff_not] at h))))
    exact PW.ret (Exists.intro _ (And.intro rfl Fin.now))
  have q2 : (m.k != 2) = false := by simp [hk]
  rw [decide_eq_true hk, Bool.true_and] at e4
  cases hv with
  | false =>
    rw [if_neg (by decide)] at e4
    rw [e4, List.append_nil]
    (repeat' (first | refine PW.seq ?_ | refine PW.skip ?_ | refine PW.block ?_ | (refine PW.rg rfl fun K hK => ?_; simp (maxSteps := 3000000) (disch := omega) only [go_sem, ↓reduceIte, reduceCtorEq, pappend, plen, h4, h2, pB, pC, mB, k0, q2]) | (refine PW.draw mix (by kernel_rfl) fun K hK => ?_; simp (maxSteps := 3000000) (disch := omega) only [go_sem, ↓reduceIte, reduceCtorEq, pappend, plen, h4, h2, pB, pC, mB, k0, q2]) | (refine PW.drawg mix (by kernel_rfl) fun K hK => ?_; simp (maxSteps := 3000000) (disch := omega) only [go_sem, ↓reduceIte, reduceCtorEq, pappend, plen, h4, h2, pB, pC, mB, k0, q2]) | (refine PW.drawt [] [] mix (by kernel_rfl) fun K hK => ?_; simp (maxSteps := 3000000) (disch := omega) only [go_sem, ↓reduceIte, reduceCtorEq, pappend, plen, h4, h2, pB, pC, mB, k0, q2]) | ((first | refine VO_cond (fun h => ?_) (fun h => ?_) | refine VOd_cond (fun h => ?_) (fun h => ?_) | refine VOg_cond (fun h => ?_) (fun h => ?_) | refine VOh_cond (fun h => ?_) (fun h => ?_) | refine VOi_cond (fun h => ?_) (fun h => ?_) | refine And.intro (fun h => ?_) (fun h => ?_)) <;> (try simp only [Bool.not_eq_true', Bool.not_eq_false', decide_eq_true_eq, decide_eq_false_iff_not] at h) <;> simp (maxSteps := 3000000) (disch := omega) only [go_sem, ↓reduceIte, reduceCtorEq, pappend, plen, h4, h2, pB, pC, mB, k0, q2, h]) | (refine VCx.call (ho) rfl ?_; simp (maxSteps := 3000000) (disch := omega) only [go_sem, ↓reduceIte, reduceCtorEq, pappend, plen, h4, h2, pB, pC, mB, k0, q2]) | (refine VCy.call (ho) rfl ?_; simp (maxSteps := 3000000) (disch := omega) only [go_sem, ↓reduceIte, reduceCtorEq, pappend, plen, h4, h2, pB, pC, mB, k0, q2]) | (refine VCz.call (fun _ => ho) rfl ?_; simp (maxSteps := 3000000) (disch := omega) only [go_sem, ↓reduceIte, reduceCtorEq, pappend, plen, h4, h2, pB, pC, mB, k0, q2]) | (refine VCk.call (fun _ _ => ho) rfl ?_; simp (maxSteps := 3000000) (disch := omega) only [go_sem, ↓reduceIte, reduceCtorEq, pappend, plen, h4, h2, pB, pC, mB, k0, q2]) | (refine VCj.now (ho) rfl ?_; simp (maxSteps := 3000000) (disch := omega) only [go_sem, ↓reduceIte, reduceCtorEq, pappend, plen, h4, h2, pB, pC, mB, k0, q2]) | (refine hK _ _ ?_; clear hK K) | (refine PW.cond (t := _) rfl (fun h => ?_) (fun h => ?_) <;> (try (cases h; done)) <;> (try simp only [Bool.not_eq_true', Bool.not_eq_false', decide_eq_true_eq, decide_eq_false_iff_not] at h))))
    exact PW.ret (Exists.intro _ (And.intro rfl Fin.now))
  | true =>
    rw [if_pos rfl] at e4
    rw [e4]
    (repeat refine PW.seq ?_); refine PW.rg rfl fun K hK => ?_; simp (maxSteps := 3000000) (disch := omega) only [go_sem, ↓reduceIte, reduceCtorEq, pappend, plen, h4, h2, pB, pC, mB, k0, q2]; refine VCx.call (ho) rfl ?_; simp (maxSteps := 3000000) (disch := omega) only [go_sem, ↓reduceIte, reduceCtorEq, pappend, plen, h4, h2, pB, pC, mB, k0, q2]; refine hK _ _ ?_; clear hK K
    (repeat refine PW.seq ?_); refine PW.cond (t := _) rfl (fun h => ?_) (fun h => ?_)
    · cases h
    refine PW.skip ?_
    (repeat refine PW.seq ?_); refine PW.rg rfl fun K hK => ?_; simp (maxSteps := 3000000) (disch := omega) only [go_sem, ↓reduceIte, reduceCtorEq, pappend, plen, h4, h2, pB, pC, mB, k18, hca]; refine hK _ _ ?_; clear hK K
    (repeat refine PW.seq ?_); refine PW.block (PW.loop ?_)
    suffices hl1 : ∀ (n : Nat) (M1 : List Bool), n ≤ 6 → M1 = M ++ (cdl m).take n → PL Try.prog _ _ [(0, .ptr (H.length + 4) 0 0), (26, .agg (fs (cdl m))), (27, .int .i64 (n : Int))] (pH H i j M1 x0 x1 x3 c m s) _ by
      exact PL.at [0, 26, 27] (hl1 0 M (by omega) (by simp)) rfl rfl
    intro n M1 hn hM1
    have hMl : M1.length ≤ 800000006 := by rw [hM1]; simp; omega
    induction hd : 6 - n using Nat.strongRecOn generalizing n M1 with
    | _ d ih =>
      refine PL.round ?_; (repeat refine PW.seq ?_); refine PW.rg rfl fun K hK => ?_; simp (maxSteps := 3000000) (disch := omega) only [go_sem, ↓reduceIte, reduceCtorEq, pappend, plen]; refine hK _ _ ?_; clear hK K
      (repeat refine PW.seq ?_); refine PW.cond (t := _) rfl (fun h => ?_) (fun h => ?_)
      · have h6 : n < 6 := by have := of_decide_eq_true h; omega
        have hgn := hfg n h6
        have hsn : M ++ (cdl m).take (n + 1) = M1 ++ [flagAt (cdl m) n] := by
          rw [hM1, List.append_assoc]
          congr 1
          unfold flagAt
          rw [List.getD_eq_getElem?_getD, List.getElem?_eq_getElem (by omega), Option.getD_some, List.take_append_getElem]
        generalize flagAt (cdl m) n = b at *
        have fl1 := fl M1 b (by omega)
        refine PW.skip ?_; (repeat refine PW.seq ?_); refine PW.block ?_
        (repeat refine PW.seq ?_); refine PW.rg rfl fun K hK => ?_; simp (maxSteps := 3000000) (disch := omega) only [go_sem, ↓reduceIte, reduceCtorEq, pappend, plen, hgn, hcl]; refine hK _ _ ?_; clear hK K
        (repeat refine PW.seq ?_); refine PW.rg rfl fun K hK => ?_; simp (maxSteps := 3000000) (disch := omega) only [go_sem, ↓reduceIte, reduceCtorEq, pappend, plen]; refine VCx.call (fl1) rfl ?_; simp (maxSteps := 3000000) (disch := omega) only [go_sem, ↓reduceIte, reduceCtorEq, pappend, plen]; refine hK _ _ ?_; clear hK K
        (repeat refine PW.seq ?_); refine PW.rg rfl fun K hK => ?_; simp (maxSteps := 3000000) (disch := omega) only [go_sem, ↓reduceIte, reduceCtorEq, pappend, plen]; refine hK _ _ ?_; clear hK K
        exact PL.at [0, 26, 27] (ih (6 - (n + 1)) (by omega) (n + 1) (M1 ++ [b]) (by omega) hsn.symm (by rw [← hsn]; simp; omega) rfl) rfl rfl
      · have h6 : n = 6 := by have := of_decide_eq_false h; omega
        subst h6
        rw [List.take_of_length_le (by omega)] at hM1
        subst hM1
        refine PW.exit ?_
        exact Exists.intro _ (And.intro rfl Fin.now)

end Go.Proofs.Ytcabpncdgagihaa.Sc

namespace Go.Proofs.Ytcabpncdgagihaa.Sc
set_option linter.all false
set_option linter.unusedVariables false
set_option linter.unusedSimpArgs false
open Pm Ty Go.RowKit

def vXm (m : Mb) (d k : Nat) : Int := if d = 0 then (if k = 0 then m.va else m.vc) else (if k = 0 then m.ve else m.vg)
def vYm (m : Mb) (d k : Nat) : Int := if d = 0 then (if k = 0 then m.vb else m.vd) else (if k = 0 then m.vf else m.vh)
def slm (m : Mb) (d k : Nat) : Int := if d = 0 then (if k = 0 then m.sa else m.sb) else (if k = 0 then m.sc else m.sd)
def usd (m : Mb) (d : Nat) : Bool := if d = 0 then m.ua else m.ub
def sXs (s : St) (d : Nat) : Int := if d = 0 then s.va else s.vc
def sYs (s : St) (d : Nat) : Int := if d = 0 then s.vb else s.vd
def setV (s : St) (d : Nat) (x y : Int) : St := if d = 0 then ⟨s.q, s.da, s.db, s.dc, x, y, s.vc, s.vd⟩ else ⟨s.q, s.da, s.db, s.dc, s.va, s.vb, x, y⟩
def vec1 (c : Cx) (m : Mb) (s : St) (d k : Nat) : List Bool := (if m.fp || fcx c then [decide (slm m d k = 1)] else []) ++ (sg (vXm m d k - sXs s d) ++ sg (vYm m d k - sYs s d))
def nvM (m : Mb) : Nat := if m.fp then 2 else 1
/-- The last n vectors of a direction. -/
def vecsR (c : Cx) (m : Mb) (d : Nat) : Nat → St → List Bool × St
  | 0, s => ([], s)
  | n + 1, s => (vec1 c m s d (nvM m - (n + 1)) ++ (vecsR c m d n (setV s d (vXm m d (nvM m - (n + 1))) (vYm m d (nvM m - (n + 1))))).1, (vecsR c m d n (setV s d (vXm m d (nvM m - (n + 1))) (vYm m d (nvM m - (n + 1))))).2)
def dirB (c : Cx) (m : Mb) (s : St) (d : Nat) : List Bool × St := if usd m d then vecsR c m d (nvM m) s else ([], s)
/-- The last n directions. -/
def dirsR (c : Cx) (m : Mb) : Nat → St → List Bool × St
  | 0, s => ([], s)
  | n + 1, s => ((dirB c m s (1 - n)).1 ++ (dirsR c m n (dirB c m s (1 - n)).2).1, (dirsR c m n (dirB c m s (1 - n)).2).2)
def b2M (c : Cx) (m : Mb) (s : St) : List Bool := if m.k = 2 then (if bcx c then [m.fp] else []) ++ (dirsR c m 2 s).1 else []
def s2M (c : Cx) (m : Mb) (s : St) : St := if m.k = 2 then (dirsR c m 2 s).2 else s
/-- Vectors in range. -/
def vrM (m : Mb) : Prop := ∀ d k, (-63 ≤ vXm m d k ∧ vXm m d k ≤ 63) ∧ (-63 ≤ vYm m d k ∧ vYm m d k ≤ 63)
def vrS (s : St) : Prop := ∀ d, (-63 ≤ sXs s d ∧ sXs s d ≤ 63) ∧ (-63 ≤ sYs s d ∧ sYs s d ≤ 63)
theorem vrS_set {m : Mb} {s : St} (hm : vrM m) (hs : vrS s) (d k : Nat) : vrS (setV s d (vXm m d k) (vYm m d k)) := fun e => by
  have a := hm d k
  have b0 := hs 0
  have b1 := hs 1
  simp only [sXs, sYs, if_true, Nat.one_ne_zero, if_false] at b0 b1
  generalize vXm m d k = x at *
  generalize vYm m d k = y at *
  unfold setV sXs sYs
  by_cases hd : d = 0 <;> by_cases he : e = 0 <;> simp only [hd, he, if_true, if_false] <;> omega
theorem vec1_len {c : Cx} {m : Mb} {s : St} (hm : vrM m) (hs : vrS s) (d k : Nat) : (vec1 c m s d k).length ≤ 63 := by
  have a := hm d k
  have b := hs d
  have h1 := sg_len (vXm m d k - sXs s d) (by omega)
  have h2 := sg_len (vYm m d k - sYs s d) (by omega)
  unfold vec1
  split <;> simp only [List.length_append, List.length_cons, List.length_nil] <;> omega
theorem vecsR_len {c : Cx} {m : Mb} (hm : vrM m) (d : Nat) : ∀ n s, vrS s → (vecsR c m d n s).1.length ≤ n * 63 ∧ vrS (vecsR c m d n s).2
  | 0, s, hs => ⟨by simp [vecsR], hs⟩
  | n + 1, s, hs => by
    obtain ⟨i1, i2⟩ := vecsR_len (c := c) hm d n _ (vrS_set hm hs d (nvM m - (n + 1)))
    have := vec1_len (c := c) hm hs d (nvM m - (n + 1))
    refine ⟨?_, i2⟩
    simp only [vecsR, List.length_append]
    omega
theorem nvM_b (m : Mb) : nvM m ≤ 2 ∧ 1 ≤ nvM m := by unfold nvM; split <;> omega
theorem dirB_len {c : Cx} {m : Mb} {s : St} (hm : vrM m) (hs : vrS s) (d : Nat) : (dirB c m s d).1.length ≤ 126 ∧ vrS (dirB c m s d).2 := by
  unfold dirB
  have := nvM_b m
  obtain ⟨i1, i2⟩ := vecsR_len (c := c) hm d (nvM m) s hs
  split
  · exact ⟨by omega, i2⟩
  · exact ⟨by simp, hs⟩
theorem dirsR_len {c : Cx} {m : Mb} (hm : vrM m) : ∀ n s, vrS s → (dirsR c m n s).1.length ≤ n * 126
  | 0, s, hs => by simp [dirsR]
  | n + 1, s, hs => by
    obtain ⟨i1, i2⟩ := dirB_len (c := c) hm hs (1 - n)
    have := dirsR_len (c := c) hm n _ i2
    simp only [dirsR, List.length_append]
    omega

section
variable (H : Heap) (i j : Nat) (M : List Bool) (x0 x1 x3 : Blk) (c : Cx) (m : Mb) (s : St) (K : Heap)
theorem pHK : pH H i j M x0 x1 x3 c m s ++ K = two H i j (wA j M) (wB M) ++ ([x0, x1, mB m, x3, pB s i c (H.length + 2)] ++ K) := List.append_assoc _ _ _
theorem pHK_2 : (pH H i j M x0 x1 x3 c m s ++ K)[H.length + 2]? = some (mB m) := by rw [List.getElem?_append_left (by rw [pH_len]; omega)]; exact pH_2 ..
theorem pHK_4 : (pH H i j M x0 x1 x3 c m s ++ K)[H.length + 4]? = some (pB s i c (H.length + 2)) := by rw [List.getElem?_append_left (by rw [pH_len]; omega)]; exact pH_4 ..
theorem pHK_5 (V : Blk) : (pH H i j M x0 x1 x3 c m s ++ V :: K)[H.length + 5]? = some V := by rw [List.getElem?_append_right (by rw [pH_len]; omega), pH_len, Nat.sub_self]; rfl
theorem pHK_s5 (V B : Blk) : (pH H i j M x0 x1 x3 c m s ++ V :: K).set (H.length + 5) B = pH H i j M x0 x1 x3 c m s ++ B :: K := by rw [List.set_append_right _ _ (by rw [pH_len]; omega), pH_len, Nat.sub_self]; rfl
theorem pHK_set (B : Blk) : (pH H i j M x0 x1 x3 c m s ++ K).set (H.length + 4) B = (two H i j (wA j M) (wB M) ++ [x0, x1, mB m, x3, B]) ++ K := by rw [List.set_append_left _ _ (by rw [pH_len]; omega), pH_set]
theorem psPK (v : Int) (hi : i < H.length) (hj : j < H.length) (hne : i ≠ j) (hv : -32767 ≤ v ∧ v ≤ 32767) (hl : M.length ≤ 900000000) :
    CallOk Try.prog 73 [.ptr i 0 0, .int .i64 v] (pH H i j M x0 x1 x3 c m s ++ K) (.int .i64 0) (pH H i j (M ++ sg v) x0 x1 x3 c m s ++ K) := by
  rw [pHK, pHK]; exact psK i j M v H _ hi hj hne hv hl
theorem hsc_pH (M1 : List Bool) (s1 : St) (hi : i < H.length) (hj : j < H.length) (hne : i ≠ j) (h : HSc (pH H i j M x0 x1 x3 c m s)) : HSc (pH H i j M1 x0 x1 x3 c m s1) := by
  have e : pH H i j M1 x0 x1 x3 c m s1 = (two (pH H i j M x0 x1 x3 c m s) i j (wA j M1) (wB M1)).set (H.length + 4) (pB s1 i c (H.length + 2)) := by
    have : two (pH H i j M x0 x1 x3 c m s) i j (wA j M1) (wB M1) = pH H i j M1 x0 x1 x3 c m s := by
      unfold pH
      rw [two_app _ _ _ _ _ _ (by rw [two_len]; exact hi) (by rw [two_len]; exact hj), two_two _ _ _ _ _ _ _ hne]
    rw [this, pH_set]; rfl
  rw [e]
  have hl := pH_len H i j M x0 x1 x3 c m s
  refine HSc.set (hsc_two _ i j M1 (by omega) h) fun x hx => ?_
  rw [two_len, hl]
  simp only [pB, pC, List.mem_cons, List.not_mem_nil, or_false] at hx
  rcases hx with rfl | rfl | rfl | rfl | rfl | rfl | rfl | rfl | rfl | rfl | rfl | rfl | rfl | rfl
  all_goals first | exact .int _ _ | exact .bool _ | exact .ptr (by omega)
end

set_option maxHeartbeats 4000000 in
set_option maxRecDepth 100000 in
theorem predP (H : Heap) (i j : Nat) (M : List Bool) (x0 x1 x3 : Blk) (c : Cx) (m : Mb) (s : St) (hi : i < H.length) (hj : j < H.length) (hne : i ≠ j) (hl : M.length ≤ 800000000) (hm : vrM m) (hs : vrS s) :
    CallOk Try.prog 28 [.ptr (H.length + 4) 0 0] (pH H i j M x0 x1 x3 c m s) (.tup []) (pH H i j (M ++ b2M c m s) x0 x1 x3 c m (s2M c m s)) := by
  have h4 := fun M s => pH_4 H i j M x0 x1 x3 c m s
  have h2 := fun M s => pH_2 H i j M x0 x1 x3 c m s
  have bo := fun K => bcx_ok c K
  have fl := fun M s b hl => flagP H i j M x0 x1 x3 c m s b hi hj hne hl
  have ps := fun M s v hv hl => psP H i j M x0 x1 x3 c m s v hi hj hne hv hl
  have ve := fun M s => vecs_ok m (H.length + 2) _ (h2 M s)
  have se := fun M s => sel_ok c m (H.length + 2) _ (h2 M s)
  by_cases hk : m.k = 2
  rotate_left
  · have e1 : b2M c m s = [] := by unfold b2M; rw [if_neg hk]
    have e2 : s2M c m s = s := by unfold s2M; rw [if_neg hk]
    rw [e1, e2, List.append_nil]
    have d1 : decide (m.k = 2) = false := decide_eq_false hk
    refine CallOk.body (F0 := [(0, .ptr (H.length + 4) 0 0)]) Try.func28 rfl Try.ntmps28 Try.results28 rfl (by kernel_rfl) rfl ?_
    (repeat refine PW.seq ?_); refine PW.rg rfl fun K hK => ?_; simp (maxSteps := 3000000) (disch := omega) only [go_sem, ↓reduceIte, reduceCtorEq, pappend, plen, h4, pB, pC, h2, mB, mbc]; refine hK _ _ ?_; clear hK K
    (repeat refine PW.seq ?_); refine PW.cond (t := _) rfl (fun h => ?_) (fun h => ?_)
    rotate_left
    · cases h
    refine PW.ret ?_
    exact Exists.intro _ (And.intro rfl Fin.now)
  have e1 : b2M c m s = (if bcx c then [m.fp] else []) ++ (dirsR c m 2 s).1 := by unfold b2M; rw [if_pos hk]
  have e2 : s2M c m s = (dirsR c m 2 s).2 := by unfold s2M; rw [if_pos hk]
  rw [e1, e2]
  have hTl := dirsR_len (c := c) hm 2 s hs
  generalize hS : (dirsR c m 2 s).2 = S
  generalize hT : M ++ ((if bcx c then [m.fp] else []) ++ (dirsR c m 2 s).1) = T
  have hTb : T.length ≤ 800001000 := by
    rw [← hT]
    simp only [List.length_append]
    split <;> simp <;> omega
  refine CallOk.body (F0 := [(0, .ptr (H.length + 4) 0 0)]) Try.func28 rfl Try.ntmps28 Try.results28 rfl (by kernel_rfl) rfl ?_
  (repeat refine PW.seq ?_); refine PW.rg rfl fun K hK => ?_; simp (maxSteps := 3000000) (disch := omega) only [go_sem, ↓reduceIte, reduceCtorEq, pappend, plen, h4, pB, pC, h2, mB, mbc]; refine hK _ _ ?_; clear hK K
  (repeat refine PW.seq ?_); refine PW.cond (t := _) rfl (fun h => ?_) (fun h => ?_)
  · cases h
  refine PW.skip ?_
  have k2 : (mbc m)[3]? = some (.bool m.fp) := rfl
  have k1 : List.take 2 (List.drop 1 (mbc m)) = [.bool m.ua, .bool m.ub] := rfl
  suffices hl1 : ∀ (d : Nat) (M1 : List Bool) (s1 : St), d ≤ 2 → vrS s1 → M1 ++ (dirsR c m (2 - d) s1).1 = T → (dirsR c m (2 - d) s1).2 = S → PL Try.prog _ _ [(0, .ptr (H.length + 4) 0 0), (34, .agg [.bool m.ua, .bool m.ub]), (35, .int .i64 (d : Int))] (pH H i j M1 x0 x1 x3 c m s1) _ by
    (repeat refine PW.seq ?_); refine PW.rg rfl fun K hK => ?_; simp (maxSteps := 3000000) (disch := omega) only [go_sem, ↓reduceIte, reduceCtorEq, pappend, plen, h4, pB, pC]; refine VCx.call (bo _) rfl ?_; simp (maxSteps := 3000000) (disch := omega) only [go_sem, ↓reduceIte, reduceCtorEq, pappend, plen, h4, pB, pC]; refine hK _ _ ?_; clear hK K
    cases hbv : bcx c with
    | false =>
      (repeat refine PW.seq ?_); refine PW.cond (t := _) rfl (fun h => ?_) (fun h => ?_)
      · cases h
      refine PW.skip ?_
      rw [hbv, if_neg (by decide), List.nil_append] at hT
      (repeat refine PW.seq ?_); refine PW.rg rfl fun K hK => ?_; simp (maxSteps := 3000000) (disch := omega) only [go_sem, ↓reduceIte, reduceCtorEq, pappend, plen, h4, pB, pC, h2, mB, k1]; refine hK _ _ ?_; clear hK K
      (repeat refine PW.seq ?_); refine PW.block (PW.loop ?_)
      exact PL.at [0, 34, 35] (hl1 0 M s (by omega) hs hT hS) rfl rfl
    | true =>
      (repeat refine PW.seq ?_); refine PW.cond (t := _) rfl (fun h => ?_) (fun h => ?_)
      rotate_left
      · cases h
      rw [hbv, if_pos rfl, ← List.append_assoc] at hT
      have fl1 := fl M s m.fp (by omega)
      (repeat refine PW.seq ?_); refine PW.rg rfl fun K hK => ?_; simp (maxSteps := 3000000) (disch := omega) only [go_sem, ↓reduceIte, reduceCtorEq, pappend, plen, h4, pB, pC, h2, mB, k2]
      refine VCx.call (fl1) rfl ?_; simp (maxSteps := 3000000) (disch := omega) only [go_sem, ↓reduceIte, reduceCtorEq, pappend, plen]; refine hK _ _ ?_; clear hK K
      (repeat refine PW.seq ?_); refine PW.rg rfl fun K hK => ?_; simp (maxSteps := 3000000) (disch := omega) only [go_sem, ↓reduceIte, reduceCtorEq, pappend, plen, h4, pB, pC, h2, mB, k1]; refine hK _ _ ?_; clear hK K
      (repeat refine PW.seq ?_); refine PW.block (PW.loop ?_)
      exact PL.at [0, 34, 35] (hl1 0 _ s (by omega) hs hT hS) rfl rfl
  intro d M1 s1 hd hs1 hM1 hS1
  induction hdd : 2 - d using Nat.strongRecOn generalizing d M1 s1 with
  | _ dd ih =>
    refine PL.round ?_; (repeat refine PW.seq ?_); refine PW.rg rfl fun K hK => ?_; simp (maxSteps := 3000000) (disch := omega) only [go_sem, ↓reduceIte, reduceCtorEq, pappend, plen]; refine hK _ _ ?_; clear hK K
    (repeat refine PW.seq ?_); refine PW.cond (t := _) rfl (fun h => ?_) (fun h => ?_)
    rotate_left
    · have h6 : d = 2 := by have := of_decide_eq_false h; omega
      subst h6
      refine PW.exit ?_
      simp only [Nat.sub_self, dirsR, List.append_nil] at hM1 hS1
      subst hM1 hS1
      exact Exists.intro _ (And.intro rfl Fin.now)
    have h6 : d < 2 := by have := of_decide_eq_true h; omega
    obtain ⟨n', hn'⟩ : ∃ n', 2 - d = n' + 1 := ⟨1 - d, by omega⟩
    have hd1 : 1 - n' = d := by omega
    rw [hn', dirsR, hd1] at hM1 hS1
    have hnx := fun M1 s1 => ih (2 - (d + 1)) (by omega) (d + 1) M1 s1 (by omega)
    rw [show 2 - (d + 1) = n' by omega] at hnx
    have hT1 : M1.length ≤ 800001000 := by
      have : M1.length ≤ T.length := by rw [← hM1, List.length_append]; omega
      omega
    have hus : ([.bool m.ua, .bool m.ub] : List PV)[d]? = some (.bool (usd m d)) := by
      have : d = 0 ∨ d = 1 := by omega
      rcases this with rfl | rfl <;> rfl
    have hdb : dirB c m s1 d = if usd m d then vecsR c m d (nvM m) s1 else ([], s1) := rfl
    refine PW.skip ?_; (repeat refine PW.seq ?_); refine PW.block ?_
    (repeat refine PW.seq ?_); refine PW.rg rfl fun K hK => ?_; simp (maxSteps := 3000000) (disch := omega) only [go_sem, ↓reduceIte, reduceCtorEq, pappend, plen, hus]; refine hK _ _ ?_; clear hK K
    (repeat refine PW.seq ?_); refine PW.rg rfl fun K hK => ?_; simp (maxSteps := 3000000) (disch := omega) only [go_sem, ↓reduceIte, reduceCtorEq, pappend, plen]; refine hK _ _ ?_; clear hK K
    cases hu : usd m d with
    | false =>
      rw [hu, if_neg (by decide)] at hdb
      rw [hdb] at hM1 hS1
      (repeat refine PW.seq ?_); refine PW.cond (t := _) rfl (fun h => ?_) (fun h => ?_)
      rotate_left
      · cases h
      refine PW.exit ?_
      (repeat refine PW.seq ?_); refine PW.rg rfl fun K hK => ?_; simp (maxSteps := 3000000) (disch := omega) only [go_sem, ↓reduceIte, reduceCtorEq, pappend, plen]; refine hK _ _ ?_; clear hK K
      exact PL.at [0, 34, 35] (hnx M1 s1 hs1 hM1 hS1 rfl) rfl rfl
    | true =>
      rw [hu, if_pos rfl] at hdb
      rw [hdb] at hM1 hS1
      (repeat refine PW.seq ?_); refine PW.cond (t := _) rfl (fun h => ?_) (fun h => ?_)
      · cases h
      refine PW.skip ?_
      have hnv := nvM_b m
      have vo := ve M1 s1
      have env : (if m.fp then (2 : Int) else 1) = ((nvM m : Nat) : Int) := by unfold nvM; cases m.fp <;> rfl
      rw [env] at vo
      (repeat refine PW.seq ?_); refine PW.rg rfl fun K hK => ?_; simp (maxSteps := 3000000) (disch := omega) only [go_sem, ↓reduceIte, reduceCtorEq, pappend, plen, h4, pB, pC]; refine VCx.call (vo) rfl ?_; simp (maxSteps := 3000000) (disch := omega) only [go_sem, ↓reduceIte, reduceCtorEq, pappend, plen, h4, pB, pC]; refine hK _ _ ?_; clear hK K
      (repeat refine PW.seq ?_); refine PW.block (PW.loop ?_)
      suffices hl2 : ∀ (k : Nat) (M2 : List Bool) (s2 : St), k ≤ nvM m → vrS s2 → M2 ++ ((vecsR c m d (nvM m - k) s2).1 ++ (dirsR c m n' (vecsR c m d (nvM m - k) s2).2).1) = T → (dirsR c m n' (vecsR c m d (nvM m - k) s2).2).2 = S →
          PL Try.prog _ _ [(0, .ptr (H.length + 4) 0 0), (2, .int .i64 (d : Int)), (34, .agg [.bool m.ua, .bool m.ub]), (35, .int .i64 (d : Int)), (45, .int .i64 (nvM m : Int)), (46, .int .i64 (k : Int))] (pH H i j M2 x0 x1 x3 c m s2) _ by
        exact PL.at [0, 2, 34, 35, 45, 46] (hl2 0 M1 s1 (by omega) hs1 hM1 hS1) rfl rfl
      clear ih hM1 hS1 hs1 hT1 hdb vo
      intro k M2 s2 hk2 hs2 hM2 hS2
      induction hkk : nvM m - k using Nat.strongRecOn generalizing k M2 s2 with
      | _ kk ih2 =>
        refine PL.round ?_; (repeat refine PW.seq ?_); refine PW.rg rfl fun K hK => ?_; simp (maxSteps := 3000000) (disch := omega) only [go_sem, ↓reduceIte, reduceCtorEq, pappend, plen]; refine hK _ _ ?_; clear hK K
        (repeat refine PW.seq ?_); refine PW.cond (t := _) rfl (fun h => ?_) (fun h => ?_)
        rotate_left
        · have h7 : k = nvM m := by have := of_decide_eq_false h; omega
          subst h7
          refine PW.exit ?_
          simp only [Nat.sub_self, vecsR, List.nil_append] at hM2 hS2
          (repeat refine PW.seq ?_); refine PW.rg rfl fun K hK => ?_; simp (maxSteps := 3000000) (disch := omega) only [go_sem, ↓reduceIte, reduceCtorEq, pappend, plen]; refine hK _ _ ?_; clear hK K
          exact PL.at [0, 34, 35] (hnx M2 s2 hs2 hM2 hS2 rfl) rfl rfl
        have h7 : k < nvM m := by have := of_decide_eq_true h; omega
        obtain ⟨n2, hn2⟩ : ∃ n2, nvM m - k = n2 + 1 := ⟨nvM m - k - 1, by omega⟩
        have hk1 : nvM m - (n2 + 1) = k := by omega
        rw [hn2, vecsR, hk1] at hM2 hS2
        have hnx2 := fun M1 s1 => ih2 (nvM m - (k + 1)) (by omega) (k + 1) M1 s1 (by omega)
        rw [show nvM m - (k + 1) = n2 by omega] at hnx2
        clear ih2
        have hT2 : M2.length ≤ 800001000 := by
          have : M2.length ≤ T.length := by rw [← hM2, List.length_append]; omega
          omega
        refine PW.skip ?_; (repeat refine PW.seq ?_); refine PW.block ?_
        (repeat refine PW.seq ?_); refine PW.rg rfl fun K hK => ?_; simp (maxSteps := 3000000) (disch := omega) only [go_sem, ↓reduceIte, reduceCtorEq, pappend, plen]; refine hK _ _ ?_; clear hK K
        have se1 := se M2 s2
        (repeat refine PW.seq ?_); refine PW.drawt [] [] mix (by kernel_rfl) fun K hK => ?_; simp (maxSteps := 3000000) (disch := omega) only [go_sem, ↓reduceIte, reduceCtorEq, pappend, plen, h4, pB, pC]
        refine VCj.now (se1) rfl ?_; simp (maxSteps := 3000000) (disch := omega) only [go_sem, ↓reduceIte, reduceCtorEq, pappend, plen]; refine hK _ _ ?_; clear hK K
        have hd01 : d = 0 ∨ d = 1 := by omega
        have hk01 : k = 0 ∨ k = 1 := by omega
        have kS : (mbc m)[13 + d * 2 + k]? = some (.int .i64 (slm m d k)) := by
          rcases hd01 with rfl | rfl <;> rcases hk01 with rfl | rfl <;> rfl
        have kV : List.take 2 (List.drop (5 + d * 4 + k * 2) (mbc m)) = [.int .i64 (vXm m d k), .int .i64 (vYm m d k)] := by
          rcases hd01 with rfl | rfl <;> rcases hk01 with rfl | rfl <;> rfl
        have kX : ∀ mi, (pC s2 i c mi)[4 + d * 2]? = some (.int .i64 (sXs s2 d)) := fun mi => by
          rcases hd01 with rfl | rfl <;> rfl
        have kY : ∀ mi, (pC s2 i c mi)[4 + d * 2 + 1]? = some (.int .i64 (sYs s2 d)) := fun mi => by
          rcases hd01 with rfl | rfl <;> rfl
        have hve : vec1 c m s2 d k = (if m.fp || fcx c then [decide (slm m d k = 1)] else []) ++ (sg (vXm m d k - sXs s2 d) ++ sg (vYm m d k - sYs s2 d)) := rfl
        have hX := (hm d k).1
        have hY := (hm d k).2
        have hX' := (hs2 d).1
        have hY' := (hs2 d).2
        have hs3 := vrS_set hm hs2 d k
        have hse1 : fl = fl := rfl
        suffices hv : ∀ M3 : List Bool, M3 ++ (sg (vXm m d k - sXs s2 d) ++ (sg (vYm m d k - sYs s2 d) ++ ((vecsR c m d n2 (setV s2 d (vXm m d k) (vYm m d k))).1 ++ (dirsR c m n' (vecsR c m d n2 (setV s2 d (vXm m d k) (vYm m d k))).2).1))) = T → M3.length ≤ 800001010 →
            PW Try.prog _ _ [(0, .ptr (H.length + 4) 0 0), (2, .int .i64 (d : Int)), (4, .int .i64 (k : Int)), (34, .agg [.bool m.ua, .bool m.ub]), (35, .int .i64 (d : Int)), (45, .int .i64 (nvM m : Int)), (46, .int .i64 (k : Int))] (pH H i j M3 x0 x1 x3 c m s2) _ by
          cases hsel : (m.fp || fcx c) with
          | false =>
            (repeat refine PW.seq ?_); refine PW.cond (t := _) rfl (fun h => ?_) (fun h => ?_)
            · cases h
            refine PW.skip ?_
            rw [hve, hsel, if_neg (by decide), List.nil_append, List.append_assoc, List.append_assoc] at hM2
            exact PW.at [0, 2, 4, 34, 35, 45, 46] (hv M2 hM2 (by omega)) rfl rfl
          | true =>
            (repeat refine PW.seq ?_); refine PW.cond (t := _) rfl (fun h => ?_) (fun h => ?_)
            rotate_left
            · cases h
            rw [hve, hsel, if_pos rfl, List.append_assoc, List.append_assoc, List.append_assoc, ← List.append_assoc M2] at hM2
            have fl1 := fl M2 s2 (decide (slm m d k = 1)) (by omega)
            have hbe : (slm m d k == 1) = decide (slm m d k = 1) := rfl
            (repeat refine PW.seq ?_); refine PW.rg rfl fun K hK => ?_; simp (maxSteps := 3000000) (disch := omega) only [go_sem, ↓reduceIte, reduceCtorEq, pappend, plen, h4, pB, pC, h2, mB, kS, hbe]
            refine VCx.call (fl1) rfl ?_; simp (maxSteps := 3000000) (disch := omega) only [go_sem, ↓reduceIte, reduceCtorEq, pappend, plen]; refine hK _ _ ?_; clear hK K
            exact PW.at [0, 2, 4, 34, 35, 45, 46] (hv _ hM2 (by simp; omega)) rfl rfl
        intro M3 hM3 hT3
        have b1 := sg_len (vXm m d k - sXs s2 d) (by omega)
        have p1 := psPK H i j M3 x0 x1 x3 c m s2 [⟨26, 0, [.int .i64 (vXm m d k), .int .i64 (vYm m d k)]⟩] (vXm m d k - sXs s2 d) hi hj hne (by omega) (by omega)
        have p2 := psPK H i j (M3 ++ sg (vXm m d k - sXs s2 d)) x0 x1 x3 c m s2 [⟨26, 0, [.int .i64 (vXm m d k), .int .i64 (vYm m d k)]⟩] (vYm m d k - sYs s2 d) hi hj hne (by omega) (by rw [List.length_append]; omega)
        rw [← List.append_assoc, ← List.append_assoc] at hM3
        generalize hM4 : M3 ++ sg (vXm m d k - sXs s2 d) ++ sg (vYm m d k - sYs s2 d) = M4 at *
        have q4 := fun M => pHK_4 H i j M x0 x1 x3 c m s2 [⟨26, 0, [.int .i64 (vXm m d k), .int .i64 (vYm m d k)]⟩]
        have q5 := fun M V => pHK_5 H i j M x0 x1 x3 c m s2 [] V
        have r5 := fun M V B => pHK_s5 H i j M x0 x1 x3 c m s2 [] V B
        have hset := fun B => pHK_set H i j M4 x0 x1 x3 c m s2 [⟨26, 0, [.int .i64 (vXm m d k), .int .i64 (vYm m d k)]⟩] B
        have pc8 : ∀ mi, (pC s2 i c mi)[8]? = some (.ptr i 0 0) := fun _ => rfl
        have pcl : ∀ mi, (pC s2 i c mi).length = 14 := fun _ => rfl
        have hpl := fun M s => pH_len H i j M x0 x1 x3 c m s
        have hca : (mbc m).length = 24 + (is m.lv).length := by simp [mbc]; omega
        (repeat refine PW.seq ?_); refine PW.rg rfl fun K hK => ?_; simp (maxSteps := 3000000) (disch := omega) only [go_sem, ↓reduceIte, reduceCtorEq, pappend, plen, h4, pB, pC, h2, mB, kV, hpl, hca, q5, r5]; refine hK _ _ ?_; clear hK K
        (repeat refine PW.seq ?_); refine PW.drawt [] [] mix (by kernel_rfl) fun K hK => ?_; simp (maxSteps := 3000000) (disch := omega) only [go_sem, ↓reduceIte, reduceCtorEq, pappend, plen, q4, q5, pB, kX, hpl, pc8]
        refine VCj.now (p1) rfl ?_; simp (maxSteps := 3000000) (disch := omega) only [go_sem, ↓reduceIte, reduceCtorEq, pappend, plen]; refine hK _ _ ?_; clear hK K
        (repeat refine PW.seq ?_); refine PW.drawt [] [] mix (by kernel_rfl) fun K hK => ?_; simp (maxSteps := 3000000) (disch := omega) only [go_sem, ↓reduceIte, reduceCtorEq, pappend, plen, q4, q5, pB, kY, hpl, pc8]
        refine VCj.now (p2) rfl ?_; simp (maxSteps := 3000000) (disch := omega) only [go_sem, ↓reduceIte, reduceCtorEq, pappend, plen]; refine hK _ _ ?_; clear hK K
        (repeat refine PW.seq ?_); refine PW.drawt [] [] mix (by kernel_rfl) fun K hK => ?_; simp (maxSteps := 3000000) (disch := omega) only [go_sem, ↓reduceIte, reduceCtorEq, pappend, plen, q4, q5, pB, hpl, hset, pcl]
        have hcell : List.take (4 + d * 2) (pC s2 i c (H.length + 2)) ++ PV.int .i64 (vXm m d k) :: PV.int .i64 (vYm m d k) :: List.drop (4 + d * 2 + (1 + 1)) (pC s2 i c (H.length + 2)) = pC (setV s2 d (vXm m d k) (vYm m d k)) i c (H.length + 2) := by
          rcases hd01 with rfl | rfl <;> rfl
        rw [hcell]
        refine hK _ _ ?_; clear hK K
        (repeat refine PW.seq ?_); refine PW.rg rfl fun K hK => ?_; simp (maxSteps := 3000000) (disch := omega) only [go_sem, ↓reduceIte, reduceCtorEq, pappend, plen]; refine hK _ _ ?_; clear hK K
        refine PL.view (Vs.trim (F1 := [(0, .ptr (H.length + 4) 0 0), (2, .int .i64 (d : Int)), (34, .agg [.bool m.ua, .bool m.ub]), (35, .int .i64 (d : Int)), (45, .int .i64 (nvM m : Int)), (46, .int .i64 ((k + 1 : Nat) : Int))]) (H1 := pH H i j M4 x0 x1 x3 c m (setV s2 d (vXm m d k) (vYm m d k))) (hsc_pH H i j M x0 x1 x3 c m s M4 _ hi hj hne) (by rw [pH_len, pH_len]; exact Nat.le_refl _) (List.append_assoc _ [_, _, _, _, _] [_]).symm ?_) (hnx2 M4 _ hs3 hM3 hS2 rfl)
        rw [pH_len]
        refine ⟨.id (.ptr (by omega)), .id (.int _ _), .id (ag_scoped fun x hx => ?_), .id (.int _ _), .id (.int _ _), .id (.int _ _), trivial⟩
        simp only [List.mem_cons, List.not_mem_nil, or_false] at hx
        rcases hx with rfl | rfl <;> exact .bool _

end Go.Proofs.Ytcabpncdgagihaa.Sc

namespace Go.Proofs.Ytcabpncdgagihaa.Sc
set_option linter.all false
set_option linter.unusedVariables false
set_option linter.unusedSimpArgs false
open Pm Ty Go.RowKit

def blkM (m : Mb) (n : Nat) : List Int := (m.lv.drop (n * 64)).take 64
def dcS (s : St) (k : Nat) : Int := if k = 0 then s.da else if k = 1 then s.db else s.dc
def setD (s : St) (k : Nat) (x : Int) : St := if k = 0 then ⟨s.q, x, s.db, s.dc, s.va, s.vb, s.vc, s.vd⟩ else if k = 1 then ⟨s.q, s.da, x, s.dc, s.va, s.vb, s.vc, s.vd⟩ else ⟨s.q, s.da, s.db, x, s.va, s.vb, s.vc, s.vd⟩
/-- The last n blocks. -/
def lvsR (m : Mb) : Nat → St → List Bool × St
  | 0, s => ([], s)
  | n + 1, s => if flagAt (cdl m) (5 - n) then
      (if m.k = 2 then (bkc (blkM m (5 - n)) 0 ++ (lvsR m n s).1, (lvsR m n s).2)
       else (sg (intAt m.lv ((5 - n) * 64) - dcS s (5 - n - 3)) ++ (bkc (blkM m (5 - n)) 1 ++ (lvsR m n (setD s (5 - n - 3) (intAt m.lv ((5 - n) * 64)))).1), (lvsR m n (setD s (5 - n - 3) (intAt m.lv ((5 - n) * 64)))).2)) else lvsR m n s
/-- Levels in range. -/
def lrM (m : Mb) : Prop := ∀ q, q < 384 → win (intAt m.lv q) 4095 = true
def dcR (s : St) : Prop := ∀ k, -4095 ≤ dcS s k ∧ dcS s k ≤ 4095
theorem dcR_set {s : St} (h : dcR s) (k : Nat) {x : Int} (hx : -4095 ≤ x ∧ x ≤ 4095) : dcR (setD s k x) := fun e => by
  have h0 : -4095 ≤ s.da ∧ s.da ≤ 4095 := h 0
  have h1 : -4095 ≤ s.db ∧ s.db ≤ 4095 := h 1
  have h2 : -4095 ≤ s.dc ∧ s.dc ≤ 4095 := h 2
  unfold setD
  split
  · unfold dcS; dsimp only; split; exact hx; split; exact h1; exact h2
  · split
    · unfold dcS; dsimp only; split; exact h0; split; exact hx; exact h2
    · unfold dcS; dsimp only; split; exact h0; split; exact h1; exact hx
theorem blkM_in {m : Mb} (h : lrM m) {n : Nat} (hn : n < 6) : inrB (blkM m n) := fun p hp => by
  unfold blkM
  rw [blk_at m.lv n p hp]
  exact h _ (by omega)
theorem lvsR_len {m : Mb} (h : lrM m) : ∀ n s, n ≤ 6 → dcR s → (lvsR m n s).1.length ≤ n * 4100
  | 0, s, _, _ => by simp [lvsR]
  | n + 1, s, hn, hs => by
    have i1 := lvsR_len h n s (by omega) hs
    have w := win_b (h ((5 - n) * 64) (by omega))
    have i2 := lvsR_len h n (setD s (5 - n - 3) (intAt m.lv ((5 - n) * 64))) (by omega) (dcR_set hs _ w)
    have d := hs (5 - n - 3)
    have k0 := bkc_len (blkM m (5 - n)) 0 (blkM_in h (by omega)) (by omega)
    have k1 := bkc_len (blkM m (5 - n)) 1 (blkM_in h (by omega)) (by omega)
    have g := sg_len (intAt m.lv ((5 - n) * 64) - dcS s (5 - n - 3)) (by omega)
    rw [lvsR]
    by_cases hf : flagAt (cdl m) (5 - n) = true
    · rw [if_pos hf]
      by_cases hk : m.k = 2
      · rw [if_pos hk]
        simp only [List.length_append]
        omega
      · rw [if_neg hk]
        simp only [List.length_append]
        omega
    · rw [if_neg hf]
      exact Nat.le_trans i1 (by omega)
theorem pC_dc (s : St) (w : Nat) (c : Cx) (mi q : Nat) (h : q < 3) : (pC s w c mi)[1 + q]? = some (.int .i64 (dcS s q)) := by
  have : q = 0 ∨ q = 1 ∨ q = 2 := by omega
  rcases this with rfl | rfl | rfl <;> rfl
theorem pC_sdc (s : St) (w : Nat) (c : Cx) (mi q : Nat) (x : Int) (h : q < 3) : (pC s w c mi).set (1 + q) (.int .i64 x) = pC (setD s q x) w c mi := by
  have : q = 0 ∨ q = 1 ∨ q = 2 := by omega
  rcases this with rfl | rfl | rfl <;> rfl
theorem mbc_cd (m : Mb) (hl : m.lv.length = 384) : List.take 6 (List.drop 18 (mbc m)) = fs (cdl m) := rfl
theorem mbc_l0 (m : Mb) (n : Nat) (hl : m.lv.length = 384) (hn : n < 6) : (mbc m)[24 + n * 64]? = some (.int .i64 (intAt m.lv (n * 64))) := by
  rw [show 24 + n * 64 = n * 64 + 24 by omega]
  exact is_get m.lv (n * 64) (by omega)
theorem mbc_bl (m : Mb) (n : Nat) : List.take 64 (List.drop (24 + n * 64) (mbc m)) = is (blkM m n) := by
  rw [show 24 + n * 64 = n * 64 + 24 by omega]
  show List.take 64 (List.drop (n * 64) (is m.lv)) = _
  rw [is_drop, is_take]; rfl
theorem bputP (H : Heap) (i j : Nat) (M : List Bool) (x0 x1 x3 : Blk) (c : Cx) (m : Mb) (s : St) (bl : List Int) (fr : Nat) (hi : i < H.length) (hj : j < H.length) (hne : i ≠ j) (hfr : fr ≤ 1) (hbl : bl.length = 64) (hr : inrB bl) (hl : M.length ≤ 800000000) :
    CallOk Try.prog 74 [.ptr i 0 0, .agg (is bl), .int .i64 (fr : Int)] (pH H i j M x0 x1 x3 c m s) (.int .i64 0) (pH H i j (M ++ bkc bl fr) x0 x1 x3 c m s) := by
  have := bput_ok i j M bl fr _ (two_Ki H i j (wA j M) (wB M) [x0, x1, mB m, x3, pB s i c (H.length + 2)] hi hne) (two_Kj H i j (wA j M) (wB M) [x0, x1, mB m, x3, pB s i c (H.length + 2)] hj) hne hfr hbl hr hl
  rw [two_app _ _ _ _ _ _ (by rw [two_len]; exact hi) (by rw [two_len]; exact hj), two_two _ _ _ _ _ _ _ hne] at this
  exact this

set_option maxHeartbeats 4000000 in
theorem levP (H : Heap) (i j : Nat) (M : List Bool) (x0 x1 x3 : Blk) (c : Cx) (m : Mb) (s : St) (hi : i < H.length) (hj : j < H.length) (hne : i ≠ j) (hl : M.length ≤ 700000000) (hm : lrM m) (hs : dcR s) (hml : m.lv.length = 384) :
    CallOk Try.prog 31 [.ptr (H.length + 4) 0 0] (pH H i j M x0 x1 x3 c m s) (.tup []) (pH H i j (M ++ (lvsR m 6 s).1) x0 x1 x3 c m (lvsR m 6 s).2) := by
  have h4 := fun M s => pH_4 H i j M x0 x1 x3 c m s
  have h2 := fun M s => pH_2 H i j M x0 x1 x3 c m s
  have ps := fun M s v hv hl => psP H i j M x0 x1 x3 c m s v hi hj hne hv hl
  have bp := fun M s bl fr h1 h2 h3 h4 => bputP H i j M x0 x1 x3 c m s bl fr hi hj hne h1 h2 h3 h4
  have k0 : (mbc m)[0]? = some (.int .i64 m.k) := rfl
  have hcd := mbc_cd m hml
  have hl0 := fun n hn => mbc_l0 m n hml hn
  have hbl := mbc_bl m
  have hlen := mbc_len m hml
  have hcl : (fs (cdl m)).length = 6 := rfl
  have hfg := fun n (hn : n < 6) => fs_get (cdl m) n hn
  have hTl := lvsR_len hm 6 s (by omega) hs
  have co := fun n hn K => cmp_ok n K hn
  have blen := fun n (hn : n < 6) => blk_len m.lv n hml hn
  generalize hS : (lvsR m 6 s).2 = S
  generalize hT : M ++ (lvsR m 6 s).1 = T
  have hTb : T.length ≤ 700030000 := by rw [← hT, List.length_append]; omega
  refine CallOk.body (F0 := [(0, .ptr (H.length + 4) 0 0)]) Try.func31 rfl Try.ntmps31 Try.results31 rfl (by kernel_rfl) rfl ?_
  (repeat refine PW.seq ?_); refine PW.rg rfl fun K hK => ?_; simp (maxSteps := 3000000) (disch := omega) only [go_sem, ↓reduceIte, reduceCtorEq, pappend, plen, h4, pB, pC, h2, mB, hcd, hlen]; refine hK _ _ ?_; clear hK K
  (repeat refine PW.seq ?_); refine PW.block (PW.loop ?_)
  suffices hl1 : ∀ (n : Nat) (M1 : List Bool) (s1 : St), n ≤ 6 → dcR s1 → M1 ++ (lvsR m (6 - n) s1).1 = T → (lvsR m (6 - n) s1).2 = S → PL Try.prog _ _ [(0, .ptr (H.length + 4) 0 0), (11, .agg (fs (cdl m))), (12, .int .i64 (n : Int))] (pH H i j M1 x0 x1 x3 c m s1) _ by
    exact PL.at [0, 11, 12] (hl1 0 M s (by omega) hs hT hS) rfl rfl
  intro n M1 s1 hn hs1 hT1 hS1
  induction hd : 6 - n using Nat.strongRecOn generalizing n M1 s1 with
  | _ d ih =>
    refine PL.round ?_; (repeat refine PW.seq ?_); refine PW.rg rfl fun K hK => ?_; simp (maxSteps := 3000000) (disch := omega) only [go_sem, ↓reduceIte, reduceCtorEq, pappend, plen]; refine hK _ _ ?_; clear hK K
    (repeat refine PW.seq ?_); refine PW.cond (t := _) rfl (fun h => ?_) (fun h => ?_)
    rotate_left
    · have h6 : n = 6 := by have := of_decide_eq_false h; omega
      subst h6
      refine PW.exit ?_
      simp only [Nat.sub_self, lvsR, List.append_nil] at hT1 hS1
      subst hT1 hS1
      exact Exists.intro _ (And.intro rfl Fin.now)
    · have h6 : n < 6 := by have := of_decide_eq_true h; omega
      have hM1 : M1.length ≤ 700030000 := by
        have : M1.length ≤ T.length := by rw [← hT1, List.length_append]; omega
        omega
      obtain ⟨d', hd'⟩ : ∃ d', 6 - n = d' + 1 := ⟨5 - n, by omega⟩
      have hn5 : 5 - d' = n := by omega
      have hdn : 6 - (n + 1) = d' := by omega
      rw [hd', lvsR, hn5] at hT1 hS1
      have hnx := ih (6 - (n + 1)) (by omega) (n + 1)
      have hgx := hfg n h6
      have hbln := hbl n
      have hbl64 := blen n h6
      change (blkM m n).length = 64 at hbl64
      have hin := blkM_in hm h6
      have hl0n := hl0 n h6
      have wl := win_b (hm (n * 64) (by omega))
      have dl := hs1 (n - 3)
      generalize intAt m.lv (n * 64) = x at *
      generalize blkM m n = bl at *
      have hcel := is_cell bl
      have hil : (is bl).length = 64 := by rw [is_len, hbl64]
      rw [hdn] at hnx
      refine PW.skip ?_; (repeat refine PW.seq ?_); refine PW.block ?_
      (repeat refine PW.seq ?_); refine PW.rg rfl fun K hK => ?_; simp (maxSteps := 3000000) (disch := omega) only [go_sem, ↓reduceIte, reduceCtorEq, pappend, plen, hgx, hcl]; refine hK _ _ ?_; clear hK K
      generalize flagAt (cdl m) n = fg at *
      (repeat refine PW.seq ?_); refine PW.rg rfl fun K hK => ?_; simp (maxSteps := 3000000) (disch := omega) only [go_sem, ↓reduceIte, reduceCtorEq, pappend, plen]; refine hK _ _ ?_; clear hK K
      cases fg with
      | false =>
        simp only [Bool.false_eq_true, if_false] at hT1 hS1
        (repeat refine PW.seq ?_); refine PW.cond (t := _) rfl (fun h => ?_) (fun h => ?_)
        rotate_left
        · cases h
        refine PW.exit ?_
        (repeat refine PW.seq ?_); refine PW.rg rfl fun K hK => ?_; simp (maxSteps := 3000000) (disch := omega) only [go_sem, ↓reduceIte, reduceCtorEq, pappend, plen]; refine hK _ _ ?_; clear hK K
        exact PL.at [0, 11, 12] (hnx M1 s1 (by omega) hs1 hT1 hS1 rfl) rfl rfl
      | true =>
        simp only [if_true] at hT1 hS1
        (repeat refine PW.seq ?_); refine PW.cond (t := _) rfl (fun h => ?_) (fun h => ?_)
        · cases h
        refine PW.skip ?_
        (repeat refine PW.seq ?_); refine PW.rg rfl fun K hK => ?_; simp (maxSteps := 3000000) (disch := omega) only [go_sem, ↓reduceIte, reduceCtorEq, pappend, plen, h4, pB, pC, h2, mB, k0]; refine hK _ _ ?_; clear hK K
        have pc8 : ∀ mi, (pC s1 i c mi)[8]? = some (.ptr i 0 0) := fun _ => rfl
        have pcl : ∀ mi, (pC s1 i c mi).length = 14 := fun _ => rfl
        have pc13 : ∀ mi, (pC s1 i c mi)[13]? = some (.ptr mi 0 0) := fun _ => rfl
        have hq3 : n - 3 < 3 := by omega
        have pdc := fun mi => pC_dc s1 i c mi (n - 3) hq3
        have psd := fun mi x => pC_sdc s1 i c mi (n - 3) x hq3
        have con := co n h6
        (repeat refine PW.seq ?_); refine PW.cond (t := _) rfl (fun h => ?_) (fun h => ?_)
        · have hk : m.k = 2 := by simpa using h
          rw [if_pos hk] at hT1 hS1
          rw [← List.append_assoc] at hT1
          have bp1 := bp M1 s1 bl 0 (by omega) hbl64 hin (by omega)
          (repeat refine PW.seq ?_); refine PW.drawt [] [] mix (by kernel_rfl) fun K hK => ?_; simp (maxSteps := 3000000) (disch := omega) only [go_sem, ↓reduceIte, reduceCtorEq, pappend, plen, h4, pB, pc8, pc13, h2, mB, hbln, hlen, hcel]
          refine VCj.now (bp1) rfl ?_; simp (maxSteps := 3000000) (disch := omega) only [go_sem, ↓reduceIte, reduceCtorEq, pappend, plen]; refine hK _ _ ?_; clear hK K
          refine PW.exit ?_
          (repeat refine PW.seq ?_); refine PW.rg rfl fun K hK => ?_; simp (maxSteps := 3000000) (disch := omega) only [go_sem, ↓reduceIte, reduceCtorEq, pappend, plen]; refine hK _ _ ?_; clear hK K
          exact PL.at [0, 11, 12] (hnx _ s1 (by omega) hs1 hT1 hS1 rfl) rfl rfl
        · have hk : ¬m.k = 2 := by simpa using h
          rw [if_neg hk] at hT1 hS1
          refine PW.skip ?_
          (repeat refine PW.seq ?_); refine PW.draw mix (by kernel_rfl) fun K hK => ?_; simp (maxSteps := 3000000) (disch := omega) only [go_sem, ↓reduceIte, reduceCtorEq, pappend, plen]
          refine VCy.call (con _) rfl ?_; simp (maxSteps := 3000000) (disch := omega) only [go_sem, ↓reduceIte, reduceCtorEq, pappend, plen, h4, pB]; refine hK _ _ ?_; clear hK K
          have hs4 := dcR_set hs1 (n - 3) wl
          have g1 := sg_len (x - dcS s1 (n - 3)) (by omega)
          have p1 := ps M1 s1 (x - dcS s1 (n - 3)) (by omega) (by omega)
          have p2 := bp (M1 ++ sg (x - dcS s1 (n - 3))) (setD s1 (n - 3) x) bl 1 (by omega) hbl64 hin (by rw [List.length_append]; omega)
          have hset := fun M B => pH_set H i j M x0 x1 x3 c m s1 B
          rw [← List.append_assoc, ← List.append_assoc] at hT1
          (repeat refine PW.seq ?_); refine PW.drawt [] [] mix (by kernel_rfl) fun K hK => ?_; simp (maxSteps := 3000000) (disch := omega) only [go_sem, ↓reduceIte, reduceCtorEq, pappend, plen, h4, pB, pc8, pc13, h2, mB, hl0n, hlen, pdc]
          refine VCj.now (p1) rfl ?_; simp (maxSteps := 3000000) (disch := omega) only [go_sem, ↓reduceIte, reduceCtorEq, pappend, plen]; refine hK _ _ ?_; clear hK K
          (repeat refine PW.seq ?_); refine PW.rg rfl fun K hK => ?_; simp (maxSteps := 3000000) (disch := omega) only [go_sem, ↓reduceIte, reduceCtorEq, pappend, plen, h4, pB, pc8, pc13, h2, mB, hl0n, hlen, pdc, hset, psd, pcl]; refine hK _ _ ?_; clear hK K
          refine PW.eq (H1 := pH H i j (M1 ++ sg (x - dcS s1 (n - 3))) x0 x1 x3 c m (setD s1 (n - 3) x)) rfl rfl ?_
          have pc8' : ∀ mi, (pC (setD s1 (n - 3) x) i c mi)[8]? = some (.ptr i 0 0) := fun _ => rfl
          have pc13' : ∀ mi, (pC (setD s1 (n - 3) x) i c mi)[13]? = some (.ptr mi 0 0) := fun _ => rfl
          (repeat refine PW.seq ?_); refine PW.drawt [] [] mix (by kernel_rfl) fun K hK => ?_; simp (maxSteps := 3000000) (disch := omega) only [go_sem, ↓reduceIte, reduceCtorEq, pappend, plen, h4, pB, pc8', pc13', h2, mB, hbln, hlen, hcel]
          refine VCj.now (p2) rfl ?_; simp (maxSteps := 3000000) (disch := omega) only [go_sem, ↓reduceIte, reduceCtorEq, pappend, plen]; refine hK _ _ ?_; clear hK K
          (repeat refine PW.seq ?_); refine PW.rg rfl fun K hK => ?_; simp (maxSteps := 3000000) (disch := omega) only [go_sem, ↓reduceIte, reduceCtorEq, pappend, plen]; refine hK _ _ ?_; clear hK K
          exact PL.at [0, 11, 12] (hnx _ _ (by omega) hs4 hT1 hS1 rfl) rfl (by rw [List.append_assoc])

end Go.Proofs.Ytcabpncdgagihaa.Sc

namespace Go.Proofs.Ytcabpncdgagihaa.Sc
set_option linter.all false
set_option linter.unusedVariables false
set_option linter.unusedSimpArgs false
open Pm Ty Go.RowKit

/-- The bits of a macroblock, and the state after it. -/
def s23 (c : Cx) (m : Mb) (s : St) : St := s3M m (s2M c m s)
def mbits (c : Cx) (s : St) (m : Mb) : List Bool := b1M c m ++ (b2M c m s ++ (b3M c m ++ (b4M m ++ (lvsR m 6 (s23 c m s)).1)))
def mstate (c : Cx) (s : St) (m : Mb) : St := aft (lvsR m 6 (s23 c m s)).2 m.k
def zSt : St := ⟨0, 0, 0, 0, 0, 0, 0, 0⟩
/-- What Put answers: the bits, the state, the error. -/
def mput (c : Cx) (s : St) (m : Mb) : List Bool × St × Int :=
  if fmS c m && vstB s then (if vqB (s.q + m.dl) then (mbits c s m, mstate c s m, 0) else ([], zSt, 2)) else ([], zSt, 1)

/-! ### what 'formed' gives -/
theorem zbk_zero {lv : List Int} {n j : Nat} (h : zbk lv n = true) (hj : j < 64) : intAt lv (n * 64 + j) = 0 := by
  have e := blk_at lv n j hj
  have hz : (lv.drop (n * 64)).take 64 = List.replicate 64 0 := by simpa [zbk] using h
  rw [hz] at e
  rw [← e]
  rw [intAt, List.getD_eq_getElem?_getD, List.getElem?_replicate, if_pos hj]
  rfl
structure Fmd (c : Cx) (m : Mb) : Prop where
  k : m.k = 0 ∨ m.k = 1 ∨ m.k = 2
  v : vrM m
  l : lrM m
  d : -30 ≤ m.dl ∧ m.dl ≤ 30
  z : m.k = 0 → m.dl = 0 ∧ hlM m = false
  i : m.k = 1 → cdl m = [true, true, true, true, true, true]
  n : hlM m = false → m.dl = 0
theorem lvr_all {lv : List Int} (h : lvr lv = true) : ∀ q, q < 384 → win (intAt lv q) 4095 = true := fun q hq => List.all_eq_true.1 h q (List.mem_range.2 hq)
theorem lr_zero {lv : List Int} (h : zlv lv = true) : ∀ q, q < 384 → win (intAt lv q) 4095 = true := fun q hq => by
  simp only [zlv, Bool.and_eq_true] at h
  obtain ⟨h0, h1, h2, h3, h4, h5, _⟩ := h
  have e : q = q / 64 * 64 + q % 64 := by omega
  have hj : q % 64 < 64 := by omega
  have hn : q / 64 = 0 ∨ q / 64 = 1 ∨ q / 64 = 2 ∨ q / 64 = 3 ∨ q / 64 = 4 ∨ q / 64 = 5 := by omega
  have z : intAt lv q = 0 := by
    rw [e]
    rcases hn with hn | hn | hn | hn | hn | hn <;> rw [hn]
    · exact zbk_zero h0 hj
    · exact zbk_zero h1 hj
    · exact zbk_zero h2 hj
    · exact zbk_zero h3 hj
    · exact zbk_zero h4 hj
    · exact zbk_zero h5 hj
  rw [z]; decide
theorem vrM_of {m : Mb} (h0 : (-63 ≤ m.va ∧ m.va ≤ 63) ∧ (-63 ≤ m.vb ∧ m.vb ≤ 63)) (h1 : (-63 ≤ m.vc ∧ m.vc ≤ 63) ∧ (-63 ≤ m.vd ∧ m.vd ≤ 63)) (h2 : (-63 ≤ m.ve ∧ m.ve ≤ 63) ∧ (-63 ≤ m.vf ∧ m.vf ≤ 63)) (h3 : (-63 ≤ m.vg ∧ m.vg ≤ 63) ∧ (-63 ≤ m.vh ∧ m.vh ≤ 63)) : vrM m := fun d k => by
  unfold vXm vYm
  split <;> split
  · exact h0
  · exact h1
  · exact h2
  · exact h3
theorem vrg_b {x y : Int} (h : vrg x y = true) : (-63 ≤ x ∧ x ≤ 63) ∧ (-63 ≤ y ∧ y ≤ 63) := by
  simp only [vrg, Bool.and_eq_true] at h
  exact ⟨win_b h.1, win_b h.2⟩
theorem dirS_b {c : Cx} {fp used : Bool} {a b d e p q : Int} (h : dirS c fp used a b d e p q = true) : ((-63 ≤ a ∧ a ≤ 63) ∧ (-63 ≤ b ∧ b ≤ 63)) ∧ ((-63 ≤ d ∧ d ≤ 63) ∧ (-63 ≤ e ∧ e ≤ 63)) := by
  unfold dirS at h
  split at h
  · simp only [Bool.and_eq_true] at h
    exact ⟨vrg_b h.1, vrg_b h.2.1⟩
  · simp only [Bool.and_eq_true, decide_eq_true_eq] at h
    omega
theorem fch_b {c : Cx} {m : Mb} (h : fch c m = true) : (-30 ≤ m.dl ∧ m.dl ≤ 30) ∧ (hlM m = false → m.dl = 0) := by
  unfold fch at h
  split at h
  · rename_i hh
    simp only [Bool.and_eq_true] at h
    exact ⟨win_b h.2, fun e => by rw [e] at hh; cases hh⟩
  · simp only [Bool.and_eq_true, decide_eq_true_eq] at h
    exact ⟨by omega, fun _ => h.2⟩
theorem fmd_of {c : Cx} {m : Mb} (h : fmS c m = true) : Fmd c m := by
  unfold fmS at h
  simp only [Bool.and_eq_true] at h
  obtain ⟨h1, h2⟩ := h
  split at h2
  · rename_i hk
    simp only [Bool.and_eq_true, zmb] at h2
    obtain ⟨_, hz, hl, _⟩ := h2
    simp only [zA, Bool.and_eq_true, beq_iff_eq, and_true] at hz
    have hh : hlM m = false := by simp [hlM, anyC, hk, hz]
    exact ⟨.inl hk, vrM_of (by omega) (by omega) (by omega) (by omega), lr_zero hl, by omega, fun _ => ⟨by omega, hh⟩, fun e => by omega, fun _ => by omega⟩
  · split at h2
    · rename_i hk0 hk
      simp only [Bool.and_eq_true] at h2
      obtain ⟨hz, ha, hf, hl⟩ := h2
      simp only [zI, Bool.and_eq_true, beq_iff_eq, and_true] at hz
      simp only [aC, Bool.and_eq_true, beq_iff_eq, and_true] at ha
      obtain ⟨f1, f2⟩ := fch_b hf
      exact ⟨.inr (.inl hk), vrM_of (by omega) (by omega) (by omega) (by omega), lvr_all hl, f1, fun e => absurd e hk0, fun _ => by simp [cdl, ha], f2⟩
    · split at h2
      · rename_i hk0 hk1 hk
        by_cases ht : c.t = 1
        · rw [intS_I c m ht] at h2; cases h2
        · rw [intS_eq c m hk ht] at h2
          simp only [Bool.and_eq_true, fprd, d0S, d1S] at h2
          obtain ⟨⟨_, _, h3, h4⟩, hf, _, hl⟩ := h2
          obtain ⟨f1, f2⟩ := fch_b hf
          exact ⟨.inr (.inr hk), vrM_of (dirS_b h3).1 (dirS_b h3).2 (dirS_b h4).1 (dirS_b h4).2, lvr_all hl, f1, fun e => absurd e hk0, fun e => absurd e hk1, f2⟩
      · cases h2
theorem vst_b {s : St} (h : vstB s = true) : (1 ≤ s.q ∧ s.q ≤ 31) ∧ vrS s ∧ dcR s := by
  simp only [vstB, Bool.and_eq_true, vqB, decide_eq_true_eq] at h
  obtain ⟨⟨h1, h2, h3⟩, h4, h5, h6⟩ := h
  refine ⟨h4, fun d => ?_, fun k => ?_⟩
  · unfold sXs sYs
    split
    · exact vrg_b h5
    · exact vrg_b h6
  · unfold dcS
    split
    · exact win_b h1
    · split
      · exact win_b h2
      · exact win_b h3

def SameQ (s t : St) : Prop := t.q = s.q ∧ t.da = s.da ∧ t.db = s.db ∧ t.dc = s.dc
theorem setV_same (s : St) (d : Nat) (x y : Int) : SameQ s (setV s d x y) := by unfold setV; split <;> exact ⟨rfl, rfl, rfl, rfl⟩
theorem SameQ.trans {a b c : St} (h : SameQ a b) (k : SameQ b c) : SameQ a c := ⟨k.1.trans h.1, k.2.1.trans h.2.1, k.2.2.1.trans h.2.2.1, k.2.2.2.trans h.2.2.2⟩
theorem vecsR_same (c : Cx) (m : Mb) (d : Nat) : ∀ n s, SameQ s (vecsR c m d n s).2
  | 0, s => ⟨rfl, rfl, rfl, rfl⟩
  | n + 1, s => (setV_same s d _ _).trans (vecsR_same c m d n _)
theorem dirB_same (c : Cx) (m : Mb) (s : St) (d : Nat) : SameQ s (dirB c m s d).2 := by
  unfold dirB; split
  · exact vecsR_same c m d _ s
  · exact ⟨rfl, rfl, rfl, rfl⟩
theorem dirsR_same (c : Cx) (m : Mb) : ∀ n s, SameQ s (dirsR c m n s).2
  | 0, s => ⟨rfl, rfl, rfl, rfl⟩
  | n + 1, s => (dirB_same c m s _).trans (dirsR_same c m n _)
theorem s2M_same (c : Cx) (m : Mb) (s : St) : SameQ s (s2M c m s) := by
  unfold s2M; split
  · exact dirsR_same c m 2 s
  · exact ⟨rfl, rfl, rfl, rfl⟩
theorem dcR_same {s t : St} (h : SameQ s t) (k : dcR s) : dcR t := fun e => by
  have := k e
  unfold dcS at this ⊢
  rw [h.2.1, h.2.2.1, h.2.2.2]; exact this
theorem s3M_dc {m : Mb} {s : St} (k : dcR s) : dcR (s3M m s) := by
  unfold s3M; split
  · exact k
  · exact k

end Go.Proofs.Ytcabpncdgagihaa.Sc

namespace Go.Proofs.Ytcabpncdgagihaa.Sc
set_option linter.all false
set_option linter.unusedVariables false
set_option linter.unusedSimpArgs false
open Pm Ty Go.RowKit

section
variable (H : Heap) (i j : Nat) (A B : Blk) (K : Heap)
theorem two_Kn (n : Nat) : (two H i j A B ++ K)[H.length + n]? = K[n]? := by
  rw [List.getElem?_append_right (by rw [two_len]; omega), two_len, show H.length + n - H.length = n by omega]
theorem two_K0 : (two H i j A B ++ K)[H.length]? = K[0]? := two_Kn H i j A B K 0
theorem two_Ksn (n : Nat) (X : Blk) : (two H i j A B ++ K).set (H.length + n) X = two H i j A B ++ K.set n X := by
  rw [List.set_append_right _ _ (by rw [two_len]; omega), two_len, show H.length + n - H.length = n by omega]
theorem two_Kl : (two H i j A B ++ K).length = H.length + K.length := by rw [List.length_append, two_len]
end
theorem pH_3 (H : Heap) (i j : Nat) (M : List Bool) (x0 x1 x3 : Blk) (c : Cx) (m : Mb) (s : St) : (pH H i j M x0 x1 x3 c m s)[H.length + 3]? = some x3 := by
  unfold pH; rw [two_Kn]; rfl
theorem pH_set3 (H : Heap) (i j : Nat) (M : List Bool) (x0 x1 x3 : Blk) (c : Cx) (m : Mb) (s : St) (B : Blk) : (pH H i j M x0 x1 x3 c m s).set (H.length + 3) B = pH H i j M x0 x1 B c m s := by
  unfold pH; rw [two_Ksn]; rfl
theorem all_scoped' {n : Nat} {xs : List PV} (h : ∀ x ∈ xs, Scoped n x) : ∀ (j : Nat) (x : PV), xs[j]? = some x → Scoped n x := fun j x hx => h x (List.mem_of_getElem? hx)
theorem cxc_cell (c : Cx) : (cxc c).all PV.cell = true := rfl
theorem stc_cell (s : St) : (stc s).all PV.cell = true := rfl
theorem mbc_cell (m : Mb) : (mbc m).all PV.cell = true := by
  have hall := is_cell m.lv
  simp [mbc, PV.cell]
  exact fun x hx => List.all_eq_true.1 hall x hx

theorem mbits_len {c : Cx} {s : St} {m : Mb} (hf : Fmd c m) (hv : vrS s) (hd : dcR s) : (mbits c s m).length ≤ 30000 ∧ (b1M c m).length ≤ 31 ∧ (b2M c m s).length ≤ 300 ∧ (b3M c m).length ≤ 40 ∧ (b4M m).length ≤ 6 ∧ dcR (s23 c m s) := by
  have h1 : (b1M c m).length ≤ 31 := by
    unfold b1M
    split
    · simp
    · exact eg_len _ (by have := numM_b c m; omega)
  have h2 : (b2M c m s).length ≤ 300 := by
    unfold b2M
    have := dirsR_len (c := c) hf.v 2 s hv
    split
    · simp only [List.length_append]
      split <;> simp <;> omega
    · simp
  have h3 : (b3M c m).length ≤ 40 := by
    unfold b3M
    have := sg_len m.dl (by have := hf.d; omega)
    split
    · simp only [List.length_append]
      split <;> simp <;> omega
    · simp
  have h4 : (b4M m).length ≤ 6 := by
    unfold b4M
    split
    · exact Nat.le_refl _
    · simp
  have h5 : dcR (s23 c m s) := s3M_dc (dcR_same (s2M_same c m s) hd)
  have h6 := lvsR_len hf.l 6 _ (by omega) h5
  refine ⟨?_, h1, h2, h3, h4, h5⟩
  unfold mbits
  simp only [List.length_append]
  omega

set_option maxHeartbeats 4000000 in
set_option maxRecDepth 100000 in
theorem mput0 (H : Heap) (i j : Nat) (M : List Bool) (c : Cx) (m : Mb) (s : St) (hA : H[i]? = some (wA j M)) (hB : H[j]? = some (wB M)) (hne : i ≠ j) (hl : M.length ≤ 600000000) (hml : m.lv.length = 384)
    (fm : fmS c m = true) (vs : vstB s = true) (vq : vqB (s.q + m.dl) = true) :
    CallOk Try.prog 7 [.ptr i 0 0, .agg (cxc c), .agg (stc s), .agg (mbc m)] H (.tup [.agg (stc (mstate c s m)), .int .i64 0]) (two H i j (wA j (M ++ mbits c s m)) (wB (M ++ mbits c s m))) := by
  have hi := (List.getElem?_eq_some_iff.1 hA).1
  have hj := (List.getElem?_eq_some_iff.1 hB).1
  have hself := two_self hA hB
  have hF := fmd_of fm
  obtain ⟨hq, hv, hd⟩ := vst_b vs
  have hdl := hF.d
  have fo := fun K => fm_ok c m K hml
  have vo := fun K => vst_ok' s K
  rw [fm] at fo
  rw [vs] at vo
  have qo := fun K => vq_ok (s.q + m.dl) K
  rw [vq] at qo
  have gi := fun K => two_Ki H i j (wA j M) (wB M) K hi hne
  have c1 := cxc_cell c
  have c2 := stc_cell s
  have c3 := mbc_cell m
  have m408 := mbc_len m hml
  have tk3 : List.take 408 (mbc m) = mbc m := List.take_of_length_le (by omega)
  have k17 : (mbc m)[17]? = some (.int .i64 m.dl) := rfl
  have k0 : (mbc m)[0]? = some (.int .i64 m.k) := rfl
  refine CallOk.body (F0 := [(0, .ptr i 0 0), (1, .agg (cxc c)), (2, .agg (stc s)), (3, .agg (mbc m))]) Try.func7 rfl Try.ntmps7 Try.results7 rfl (by kernel_rfl) rfl ?_
  refine PW.eq rfl hself.symm ?_
  have hlen : (two H i j (wA j M) (wB M)).length = H.length := two_len ..
  (repeat refine PW.seq ?_); refine PW.rg rfl fun K hK => ?_; simp (maxSteps := 3000000) (disch := omega) only [go_sem, ↓reduceIte, reduceCtorEq, pappend, plen, c1, c2, c3, hlen, two_Kl, Nat.reduceAdd]; refine hK _ _ ?_; clear hK K
  have tk1 : List.take 4 (cxc c) = cxc c := rfl
  have tk2 : List.take 8 (stc s) = stc s := rfl
  have l1 : (cxc c).length = 4 := rfl
  have l2 : (stc s).length = 8 := rfl
  have s0 : (stc s)[0]? = some (.int .i64 s.q) := rfl
  (repeat refine PW.seq ?_); refine PW.rg rfl fun K hK => ?_; simp (maxSteps := 3000000) (disch := omega) only [go_sem, ↓reduceIte, reduceCtorEq, pappend, plen, gi, wA_v, two_Kn, two_K0, tk1, tk3, l1, m408]
  refine VCx.call (fo _) rfl ?_; simp (maxSteps := 3000000) (disch := omega) only [go_sem, ↓reduceIte, reduceCtorEq, pappend, plen, two_Kn, two_K0, tk2, l2]
  refine VCx.call (vo _) rfl ?_; simp (maxSteps := 3000000) (disch := omega) only [go_sem, ↓reduceIte, reduceCtorEq, pappend, plen]; refine hK _ _ ?_; clear hK K
  (repeat refine PW.seq ?_); refine PW.cond (t := _) rfl (fun h => ?_) (fun h => ?_)
  · cases h
  refine PW.skip ?_
  (repeat refine PW.seq ?_); refine PW.rg rfl fun K hK => ?_; simp (maxSteps := 3000000) (disch := omega) only [go_sem, ↓reduceIte, reduceCtorEq, pappend, plen, two_Kn, two_K0, s0, k17, l2, m408]
  refine VCx.call (qo _) rfl ?_; simp (maxSteps := 3000000) (disch := omega) only [go_sem, ↓reduceIte, reduceCtorEq, pappend, plen]; refine hK _ _ ?_; clear hK K
  (repeat refine PW.seq ?_); refine PW.cond (t := _) rfl (fun h => ?_) (fun h => ?_)
  · cases h
  refine PW.skip ?_
  (repeat refine PW.seq ?_); refine PW.rg rfl fun K hK => ?_; simp (maxSteps := 3000000) (disch := omega) only [go_sem, ↓reduceIte, reduceCtorEq, pappend, plen, two_Kn, two_K0, stc, cxc, two_Kl, two_Ksn, Nat.reduceAdd]; refine hK _ _ ?_; clear hK K
  refine PW.at [7, 8, 10] (F1 := [(7, .ptr (H.length + 2) 0 0), (8, .ptr (H.length + 3) 0 0), (10, .ptr (H.length + 4) 0 0)]) (H1 := pH H i j M ⟨38, 0, cxc c⟩ ⟨34, 0, stc s⟩ ⟨34, 0, stc zSt⟩ c m s) ?_ rfl rfl
  generalize (⟨38, 0, cxc c⟩ : Blk) = x0
  generalize (⟨34, 0, stc s⟩ : Blk) = x1
  obtain ⟨x3, hx3⟩ : ∃ x3 : Blk, x3 = ⟨34, 0, stc zSt⟩ := ⟨_, rfl⟩
  rw [← hx3]
  clear fo vo qo tk3 gi hself
  have nf : (pvc Value.nilFunc).cells = [.nl 0] := rfl
  have hF3 : 1 ≤ (s2M c m s).q ∧ (s2M c m s).q ≤ 31 := by rw [(s2M_same c m s).1]; exact hq
  obtain ⟨_, n1, n2, n3, n4, hd5⟩ := mbits_len (c := c) hF hv hd
  have p1 := kindP H i j M x0 x1 x3 c m s hi hj hne (by omega) hF.k
  have p2 := predP H i j (M ++ b1M c m) x0 x1 x3 c m s hi hj hne (by rw [List.length_append]; omega) hF.v hv
  have p3 := chgP H i j (M ++ b1M c m ++ b2M c m s) x0 x1 x3 c m (s2M c m s) hi hj hne (by simp only [List.length_append]; omega) hdl hF3
  have p4 := codP H i j (M ++ b1M c m ++ b2M c m s ++ b3M c m) x0 x1 x3 c m (s3M m (s2M c m s)) hi hj hne (by simp only [List.length_append]; omega)
  have p5 := levP H i j (M ++ b1M c m ++ b2M c m s ++ b3M c m ++ b4M m) x0 x1 x3 c m (s3M m (s2M c m s)) hi hj hne (by simp only [List.length_append]; omega) hF.l hd5 hml
  have hT : M ++ b1M c m ++ b2M c m s ++ b3M c m ++ b4M m ++ (lvsR m 6 (s3M m (s2M c m s))).1 = M ++ mbits c s m := by
    simp only [mbits, s23, List.append_assoc]
  rw [hT] at p5
  simp only [List.append_assoc] at p2 p3 p4 p5
  have hst : mstate c s m = aft (lvsR m 6 (s3M m (s2M c m s))).2 m.k := rfl
  rw [hst]
  generalize (lvsR m 6 (s3M m (s2M c m s))).2 = s6 at *
  generalize M ++ mbits c s m = T at *
  (repeat refine PW.seq ?_); refine PW.rg rfl fun K hK => ?_; simp (maxSteps := 3000000) (disch := omega) only [go_sem, ↓reduceIte, reduceCtorEq, pappend, plen, nf]; refine hK _ _ ?_; clear hK K
  (repeat refine PW.seq ?_); refine PW.block (PW.loop ?_)
  refine PL.round ?_
  (repeat refine PW.seq ?_); refine PW.rg rfl fun K hK => ?_; simp (maxSteps := 3000000) (disch := omega) only [go_sem, ↓reduceIte, reduceCtorEq, pappend, plen]; refine hK _ _ ?_; clear hK K
  (repeat refine PW.seq ?_); refine PW.cond (t := _) rfl (fun h => ?_) (fun h => ?_)
  rotate_left
  · cases h
  refine PW.skip ?_; (repeat refine PW.seq ?_); refine PW.block ?_
  (repeat refine PW.seq ?_); refine PW.rg rfl fun K hK => ?_; simp (maxSteps := 3000000) (disch := omega) only [go_sem, ↓reduceIte, reduceCtorEq, pappend, plen]; refine hK _ _ ?_; clear hK K
  (repeat refine PW.seq ?_); refine PW.rg rfl fun K hK => ?_; simp (maxSteps := 3000000) (disch := omega) only [go_sem, ↓reduceIte, reduceCtorEq, pappend, plen]; refine VCx.call (p1) rfl ?_; simp (maxSteps := 3000000) (disch := omega) only [go_sem, ↓reduceIte, reduceCtorEq, pappend, plen]; refine hK _ _ ?_; clear hK K
  (repeat refine PW.seq ?_); refine PW.rg rfl fun K hK => ?_; simp (maxSteps := 3000000) (disch := omega) only [go_sem, ↓reduceIte, reduceCtorEq, pappend, plen]; refine hK _ _ ?_; clear hK K
  refine PL.round ?_
  (repeat refine PW.seq ?_); refine PW.rg rfl fun K hK => ?_; simp (maxSteps := 3000000) (disch := omega) only [go_sem, ↓reduceIte, reduceCtorEq, pappend, plen]; refine hK _ _ ?_; clear hK K
  (repeat refine PW.seq ?_); refine PW.cond (t := _) rfl (fun h => ?_) (fun h => ?_)
  rotate_left
  · cases h
  refine PW.skip ?_; (repeat refine PW.seq ?_); refine PW.block ?_
  (repeat refine PW.seq ?_); refine PW.rg rfl fun K hK => ?_; simp (maxSteps := 3000000) (disch := omega) only [go_sem, ↓reduceIte, reduceCtorEq, pappend, plen]; refine hK _ _ ?_; clear hK K
  (repeat refine PW.seq ?_); refine PW.rg rfl fun K hK => ?_; simp (maxSteps := 3000000) (disch := omega) only [go_sem, ↓reduceIte, reduceCtorEq, pappend, plen]; refine VCx.call (p2) rfl ?_; simp (maxSteps := 3000000) (disch := omega) only [go_sem, ↓reduceIte, reduceCtorEq, pappend, plen]; refine hK _ _ ?_; clear hK K
  (repeat refine PW.seq ?_); refine PW.rg rfl fun K hK => ?_; simp (maxSteps := 3000000) (disch := omega) only [go_sem, ↓reduceIte, reduceCtorEq, pappend, plen]; refine hK _ _ ?_; clear hK K
  refine PL.round ?_
  (repeat refine PW.seq ?_); refine PW.rg rfl fun K hK => ?_; simp (maxSteps := 3000000) (disch := omega) only [go_sem, ↓reduceIte, reduceCtorEq, pappend, plen]; refine hK _ _ ?_; clear hK K
  (repeat refine PW.seq ?_); refine PW.cond (t := _) rfl (fun h => ?_) (fun h => ?_)
  rotate_left
  · cases h
  refine PW.skip ?_; (repeat refine PW.seq ?_); refine PW.block ?_
  (repeat refine PW.seq ?_); refine PW.rg rfl fun K hK => ?_; simp (maxSteps := 3000000) (disch := omega) only [go_sem, ↓reduceIte, reduceCtorEq, pappend, plen]; refine hK _ _ ?_; clear hK K
  (repeat refine PW.seq ?_); refine PW.rg rfl fun K hK => ?_; simp (maxSteps := 3000000) (disch := omega) only [go_sem, ↓reduceIte, reduceCtorEq, pappend, plen]; refine VCx.call (p3) rfl ?_; simp (maxSteps := 3000000) (disch := omega) only [go_sem, ↓reduceIte, reduceCtorEq, pappend, plen]; refine hK _ _ ?_; clear hK K
  (repeat refine PW.seq ?_); refine PW.rg rfl fun K hK => ?_; simp (maxSteps := 3000000) (disch := omega) only [go_sem, ↓reduceIte, reduceCtorEq, pappend, plen]; refine hK _ _ ?_; clear hK K
  refine PL.round ?_
  (repeat refine PW.seq ?_); refine PW.rg rfl fun K hK => ?_; simp (maxSteps := 3000000) (disch := omega) only [go_sem, ↓reduceIte, reduceCtorEq, pappend, plen]; refine hK _ _ ?_; clear hK K
  (repeat refine PW.seq ?_); refine PW.cond (t := _) rfl (fun h => ?_) (fun h => ?_)
  rotate_left
  · cases h
  refine PW.skip ?_; (repeat refine PW.seq ?_); refine PW.block ?_
  (repeat refine PW.seq ?_); refine PW.rg rfl fun K hK => ?_; simp (maxSteps := 3000000) (disch := omega) only [go_sem, ↓reduceIte, reduceCtorEq, pappend, plen]; refine hK _ _ ?_; clear hK K
  (repeat refine PW.seq ?_); refine PW.rg rfl fun K hK => ?_; simp (maxSteps := 3000000) (disch := omega) only [go_sem, ↓reduceIte, reduceCtorEq, pappend, plen]; refine VCx.call (p4) rfl ?_; simp (maxSteps := 3000000) (disch := omega) only [go_sem, ↓reduceIte, reduceCtorEq, pappend, plen]; refine hK _ _ ?_; clear hK K
  (repeat refine PW.seq ?_); refine PW.rg rfl fun K hK => ?_; simp (maxSteps := 3000000) (disch := omega) only [go_sem, ↓reduceIte, reduceCtorEq, pappend, plen]; refine hK _ _ ?_; clear hK K
  refine PL.round ?_
  (repeat refine PW.seq ?_); refine PW.rg rfl fun K hK => ?_; simp (maxSteps := 3000000) (disch := omega) only [go_sem, ↓reduceIte, reduceCtorEq, pappend, plen]; refine hK _ _ ?_; clear hK K
  (repeat refine PW.seq ?_); refine PW.cond (t := _) rfl (fun h => ?_) (fun h => ?_)
  rotate_left
  · cases h
  refine PW.skip ?_; (repeat refine PW.seq ?_); refine PW.block ?_
  (repeat refine PW.seq ?_); refine PW.rg rfl fun K hK => ?_; simp (maxSteps := 3000000) (disch := omega) only [go_sem, ↓reduceIte, reduceCtorEq, pappend, plen]; refine hK _ _ ?_; clear hK K
  (repeat refine PW.seq ?_); refine PW.rg rfl fun K hK => ?_; simp (maxSteps := 3000000) (disch := omega) only [go_sem, ↓reduceIte, reduceCtorEq, pappend, plen]; refine VCx.call (p5) rfl ?_; simp (maxSteps := 3000000) (disch := omega) only [go_sem, ↓reduceIte, reduceCtorEq, pappend, plen]; refine hK _ _ ?_; clear hK K
  (repeat refine PW.seq ?_); refine PW.rg rfl fun K hK => ?_; simp (maxSteps := 3000000) (disch := omega) only [go_sem, ↓reduceIte, reduceCtorEq, pappend, plen]; refine hK _ _ ?_; clear hK K
  refine PL.round ?_
  (repeat refine PW.seq ?_); refine PW.rg rfl fun K hK => ?_; simp (maxSteps := 3000000) (disch := omega) only [go_sem, ↓reduceIte, reduceCtorEq, pappend, plen]; refine hK _ _ ?_; clear hK K
  (repeat refine PW.seq ?_); refine PW.cond (t := _) rfl (fun h => ?_) (fun h => ?_)
  · cases h
  refine PW.exit ?_
  have g4 := pH_4 H i j T x0 x1 x3 c m s6
  have g2 := pH_2 H i j T x0 x1 x3 c m s6
  have g3 := pH_3 H i j T x0 x1 x3 c m s6
  have gs := fun B => pH_set3 H i j T x0 x1 x3 c m s6 B
  have ao := fun K => aft_ok s6 m.k K
  have tp : ∀ mi, List.take 8 (pC s6 i c mi) = stc s6 := fun _ => rfl
  have lp : ∀ mi, (pC s6 i c mi).length = 14 := fun _ => rfl
  have l8 : ∀ t, (stc t).length = 8 := fun _ => rfl
  have c8 : ∀ t, (stc t).all PV.cell = true := fun _ => rfl
  have g3 : (pH H i j T x0 x1 x3 c m s6)[H.length + 3]? = some ⟨34, 0, [.int .i64 0, .int .i64 0, .int .i64 0, .int .i64 0, .int .i64 0, .int .i64 0, .int .i64 0, .int .i64 0]⟩ := by rw [g3, hx3]; rfl
  have tk8 : ∀ t, List.take 8 (stc t) = stc t := fun _ => rfl
  have gf := pH_3 H i j T x0 x1 ⟨34, 0, stc (aft s6 m.k)⟩ c m s6
  (repeat refine PW.seq ?_); refine PW.rg rfl fun K hK => ?_; simp (maxSteps := 3000000) (disch := omega) only [go_sem, ↓reduceIte, reduceCtorEq, pappend, plen, g4, g2, pB, mB, k0, tp, lp]
  refine VCx.call (ao _) rfl ?_; simp (maxSteps := 3000000) (disch := omega) only [go_sem, ↓reduceIte, reduceCtorEq, pappend, plen, g3, gs, l8, c8]
  refine hK _ _ ?_; clear hK K
  refine PW.ret ⟨.tup [.agg (stc (aft s6 m.k)), .int .i64 0], by simp (maxSteps := 3000000) (disch := omega) only [go_sem, ↓reduceIte, reduceCtorEq, pappend, plen, presults, presult, List.mapM_cons, List.mapM_nil, Option.pure_def, Option.bind_eq_bind, Option.bind_some, Array.toList, tk8, gf, l8], ?_⟩
  exact Fin.cut rfl (two_len ..).symm (hsc_two H i j T hj) (.id (.tup (all_scoped' fun x hx => by
    simp only [List.mem_cons, List.not_mem_nil, or_false] at hx
    rcases hx with rfl | rfl
    · exact stc_scoped _ _
    · exact .int _ _)))

end Go.Proofs.Ytcabpncdgagihaa.Sc

namespace Go.Proofs.Ytcabpncdgagihaa.Sc
set_option linter.all false
set_option linter.unusedVariables false
set_option linter.unusedSimpArgs false
open Pm Ty Go.RowKit

def tkF (q : List UInt8) (n a : Nat) : Rr Bool := if a < n then .ok (decide (ubit q a = 1)) (a + 1) else .er 3 a
def tkD (q : List UInt8) (n : Nat) (pr : Int) (most : Nat) (a : Nat) : Rr Int := (tkS q n a).bind fun d a1 => if win (pr + d) most then .ok (pr + d) a1 else .er 2 a1
def setSl (m : Mb) (d k : Nat) (x : Int) : Mb := if d = 0 then (if k = 0 then { m with sa := x } else { m with sb := x }) else (if k = 0 then { m with sc := x } else { m with sd := x })
def setVm (m : Mb) (d k : Nat) (x y : Int) : Mb := if d = 0 then (if k = 0 then { m with va := x, vb := y } else { m with vc := x, vd := y }) else (if k = 0 then { m with ve := x, vf := y } else { m with vg := x, vh := y })
def setCd (m : Mb) (n : Nat) (b : Bool) : Mb := if n = 0 then { m with ca := b } else if n = 1 then { m with cb := b } else if n = 2 then { m with cc := b } else if n = 3 then { m with cd := b } else if n = 4 then { m with ce := b } else { m with cf := b }
def setLv (m : Mb) (n : Nat) (l : List Int) : Mb := { m with lv := m.lv.take (n * 64) ++ l ++ m.lv.drop (n * 64 + 64) }
/-- An Intra macroblock; an Inter macroblock; before the rest of it is read. -/
def inMb : Mb := ⟨1, false, false, false, false, 0, 0, 0, 0, 0, 0, 0, 0, 0, 0, 0, 0, 0, true, true, true, true, true, true, zl384⟩
def peMb (v : Nat) : Mb := ⟨2, decide (v ≤ 2) || decide (5 ≤ v), decide (3 ≤ v), false, false, 0, 0, 0, 0, 0, 0, 0, 0, 0, 0, 0, 0, 0, false, false, false, false, false, false, zl384⟩
def tkKd (c : Cx) (q : List UInt8) (n a : Nat) : Rr (Mb × Bool) :=
  if c.t = 1 then .ok (inMb, true) a else (tkU q n a).bind fun v a1 => if (if c.t = 2 then 3 else 7) < v then .er 2 a1 else if v = (if c.t = 2 then 3 else 7) then .ok (inMb, true) a1 else if v = 0 then .ok (zMb, false) a1 else .ok (peMb v, decide (v % 2 = 0)) a1
def tkVc (c : Cx) (q : List UInt8) (n : Nat) (m : Mb) (s : St) (d k a : Nat) : Rr (Mb × St) :=
  (if m.fp || fcx c then (tkF q n a).bind fun b a1 => .ok (setSl m d k (b.toNat : Int)) a1 else .ok m a).bind fun m a1 =>
  (tkD q n (sXs s d) 63 a1).bind fun x a2 => (tkD q n (sYs s d) 63 a2).bind fun y a3 => .ok (setVm m d k x y, setV s d x y) a3
def tkVs (c : Cx) (q : List UInt8) (n d : Nat) : Nat → Nat → Mb → St → Nat → Rr (Mb × St)
  | 0, _, m, s, a => .ok (m, s) a
  | r + 1, k, m, s, a => (tkVc c q n m s d k a).bind fun x a1 => tkVs c q n d r (k + 1) x.1 x.2 a1
def tkDr (c : Cx) (q : List UInt8) (n : Nat) (m : Mb) (s : St) (d a : Nat) : Rr (Mb × St) := if usd m d then tkVs c q n d (nvM m) 0 m s a else .ok (m, s) a
def tkDs (c : Cx) (q : List UInt8) (n : Nat) : Nat → Nat → Mb → St → Nat → Rr (Mb × St)
  | 0, _, m, s, a => .ok (m, s) a
  | r + 1, d, m, s, a => (tkDr c q n m s d a).bind fun x a1 => tkDs c q n r (d + 1) x.1 x.2 a1
def tkPr (c : Cx) (q : List UInt8) (n : Nat) (m : Mb) (s : St) (a : Nat) : Rr (Mb × St) :=
  if m.k = 2 then (if bcx c then (tkF q n a).bind fun b a1 => .ok { m with fp := b } a1 else .ok m a).bind fun m a1 => tkDs c q n 2 0 m s a1 else .ok (m, s) a
def tkCh (c : Cx) (q : List UInt8) (n : Nat) (hl : Bool) (m : Mb) (s : St) (a : Nat) : Rr (Mb × St) :=
  if hl then (if bcx c then (tkF q n a).bind fun b a1 => .ok { m with fd := b } a1 else .ok m a).bind fun m a1 =>
    (tkS q n a1).bind fun d a2 => if vqB (s.q + d) then .ok ({ m with dl := d }, { s with q := s.q + d }) a2 else .er 2 a2 else .ok (m, s) a
def tkCf (q : List UInt8) (n : Nat) : Nat → Mb → Nat → Rr Mb
  | 0, m, a => if anyC m then .ok m a else .er 2 a
  | r + 1, m, a => (tkF q n a).bind fun b a1 => tkCf q n r (setCd m (5 - r) b) a1
def tkCo (q : List UInt8) (n : Nat) (hl : Bool) (m : Mb) (a : Nat) : Rr Mb := if decide (m.k = 2) && hl then tkCf q n 6 m a else .ok m a
def tkLv (q : List UInt8) (n : Nat) : Nat → Mb → St → Nat → Rr (Mb × St)
  | 0, m, s, a => .ok (m, s) a
  | r + 1, m, s, a => if flagAt (cdl m) (5 - r) then
      (if m.k = 2 then (tkBl q n 0 a).bind fun l a1 => if l = z64 then .er 2 a1 else tkLv q n r (setLv m (5 - r) l) s a1
       else (tkD q n (dcS s (5 - r - 3)) 4095 a).bind fun d a1 => (tkBl q n 1 a1).bind fun l a2 => tkLv q n r (setLv m (5 - r) (l.set 0 d)) (setD s (5 - r - 3) d) a2) else tkLv q n r m s a
/-- Parts 2 to 5. -/
def tkRs (c : Cx) (q : List UInt8) (n : Nat) (hl : Bool) (m : Mb) (s : St) (a : Nat) : Rr (Mb × St) :=
  (tkPr c q n m s a).bind fun y a2 => (tkCh c q n hl y.1 y.2 a2).bind fun z a3 => (tkCo q n hl z.1 a3).bind fun m a4 => (tkLv q n 6 m z.2 a4).bind fun w a5 => .ok (w.1, aft w.2 w.1.k) a5
def mtk (c : Cx) (s : St) (q : List UInt8) (n a : Nat) : Rr (Mb × St) := (tkKd c q n a).bind fun x a1 => tkRs c q n x.2 x.1 s a1

theorem tkF_b {q : List UInt8} {n a a1 : Nat} {b : Bool} (h : tkF q n a = .ok b a1) : a1 = a + 1 ∧ a < n ∧ b = decide (ubit q a = 1) := by
  unfold tkF at h
  split at h
  · injection h with h1 h2; exact ⟨h2.symm, by assumption, h1.symm⟩
  · cases h
theorem tkF_e {q : List UInt8} {n a e a1 : Nat} (h : tkF q n a = .er e a1) : a1 = a ∧ e = 3 ∧ n ≤ a := by
  unfold tkF at h
  split at h
  · cases h
  · injection h with h1 h2; omega
theorem tkD_b {q : List UInt8} {n a a1 most : Nat} {pr v : Int} (h : tkD q n pr most a = .ok v a1) (ha : a ≤ n) : (-(most : Int) ≤ v ∧ v ≤ most) ∧ a ≤ a1 ∧ a1 ≤ n := by
  unfold tkD at h
  cases hs : tkS q n a with
  | er e a2 => rw [hs] at h; cases h
  | ok d a2 =>
    rw [hs, Rr.bind_ok] at h
    have b := tkS_b hs ha
    split at h
    · rename_i hw
      injection h with h1 h2
      subst h1 h2
      exact ⟨win_b hw, by omega, b.2.2⟩
    · cases h
theorem tkD_e {q : List UInt8} {n a a1 e most : Nat} {pr : Int} (h : tkD q n pr most a = .er e a1) (ha : a ≤ n) : a ≤ a1 ∧ a1 ≤ n ∧ e ≤ 3 := by
  unfold tkD at h
  cases hs : tkS q n a with
  | er e2 a2 =>
    rw [hs] at h
    have := tkS_e hs
    injection h with h1 h2
    omega
  | ok d a2 =>
    rw [hs, Rr.bind_ok] at h
    have b := tkS_b hs ha
    split at h
    · cases h
    · injection h with h1 h2; omega

/-! ### memory -/
def tC (s : St) (w : Nat) (c : Cx) (mi : Nat) (hl : Bool) : List PV := [.int .i64 s.q, .int .i64 s.da, .int .i64 s.db, .int .i64 s.dc, .int .i64 s.va, .int .i64 s.vb, .int .i64 s.vc, .int .i64 s.vd, .ptr w 0 0, .int .i64 c.t, .int .i64 c.s, .bool c.i, .bool c.n, .ptr mi 0 0, .bool hl]
def tB (s : St) (w : Nat) (c : Cx) (mi : Nat) (hl : Bool) : Blk := ⟨126, 0, tC s w c mi hl⟩
theorem tB_v (s : St) (w : Nat) (c : Cx) (mi : Nat) (hl : Bool) : (tB s w c mi hl).ver = 0 := rfl
theorem tB_c (s : St) (w : Nat) (c : Cx) (mi : Nat) (hl : Bool) : (tB s w c mi hl).cells = tC s w c mi hl := rfl
theorem tB_e (s : St) (w : Nat) (c : Cx) (mi : Nat) (hl : Bool) : (tB s w c mi hl).e = 126 := rfl
theorem mB_v (m : Mb) : (mB m).ver = 0 := rfl
theorem mB_c (m : Mb) : (mB m).cells = mbc m := rfl
theorem mB_e (m : Mb) : (mB m).e = 49 := rfl
/-- What Take has in memory: the reader at place a, and its own blocks. -/
def tG (H : Heap) (i : Nat) (p : List UInt8) (n a : Nat) (X : Heap) (B4 B5 : Blk) : Heap := H.set i (rA p n a) ++ (X ++ [B4, B5])
section
variable (H : Heap) (i : Nat) (p : List UInt8) (n a : Nat) (X : Heap) (B4 B5 : Blk)
theorem tG_len (hX : X.length = 4) : (tG H i p n a X B4 B5).length = H.length + 6 := by simp [tG, hX]
theorem tG_i (hi : i < H.length) : (tG H i p n a X B4 B5)[i]? = some (rA p n a) := by
  unfold tG; rw [List.getElem?_append_left (by simpa using hi)]; simp [hi]
theorem tG_si (hi : i < H.length) (a' : Nat) : (tG H i p n a X B4 B5).set i (rA p n a') = tG H i p n a' X B4 B5 := by
  unfold tG; rw [List.set_append_left _ _ (by simpa using hi), List.set_set]
theorem tG_4 (hX : X.length = 4) : (tG H i p n a X B4 B5)[H.length + 4]? = some B4 := by
  unfold tG
  rw [List.getElem?_append_right (by simp), List.length_set, show H.length + 4 - H.length = 4 by omega, List.getElem?_append_right (by omega), hX]; rfl
theorem tG_5 (hX : X.length = 4) : (tG H i p n a X B4 B5)[H.length + 5]? = some B5 := by
  unfold tG
  rw [List.getElem?_append_right (by simp), List.length_set, show H.length + 5 - H.length = 5 by omega, List.getElem?_append_right (by omega), hX]; rfl
theorem tG_s4 (hX : X.length = 4) (B : Blk) : (tG H i p n a X B4 B5).set (H.length + 4) B = tG H i p n a X B B5 := by
  unfold tG
  rw [List.set_append_right _ _ (by simp), List.length_set, show H.length + 4 - H.length = 4 by omega, List.set_append_right _ _ (by omega), hX]; rfl
theorem tG_s5 (hX : X.length = 4) (B : Blk) : (tG H i p n a X B4 B5).set (H.length + 5) B = tG H i p n a X B4 B := by
  unfold tG
  rw [List.set_append_right _ _ (by simp), List.length_set, show H.length + 5 - H.length = 5 by omega, List.set_append_right _ _ (by omega), hX]; rfl
end

def rvF : Rr Bool → PV
  | .ok b _ => .tup [.bool b, .int .i64 0]
  | .er e _ => .tup [.bool false, .int .i64 ((e : Int) + 1)]

section
variable (H : Heap) (i : Nat) (p : List UInt8) (n a : Nat) (X : Heap) (B4 : Blk) (c : Cx) (s : St) (hl : Bool) (hi : i < H.length) (hX : X.length = 4) (ha : a ≤ n) (hn : n ≤ 8 * p.length) (hp : p.length ≤ 100000000)
include hi hX ha hn hp
theorem tflag_ok : CallOk Try.prog 94 [.ptr (H.length + 5) 0 0] (tG H i p n a X B4 (tB s i c (H.length + 4) hl)) (rvF (tkF p n a)) (tG H i p n (tkF p n a).at X B4 (tB s i c (H.length + 4) hl)) := by
  have g5 := fun a => tG_5 H i p n a X B4 (tB s i c (H.length + 4) hl) hX
  have gi := tG_i H i p n a X B4 (tB s i c (H.length + 4) hl) hi
  have pc8 : (tC s i c (H.length + 4) hl)[8]? = some (.ptr i 0 0) := rfl
  cases hf : tkF p n a with
  | ok b a1 =>
    obtain ⟨rfl, h2, rfl⟩ := tkF_b hf
    have t := rtake_ok i p n a 1 _ gi (by omega) hn hp (by omega)
    rw [tG_si _ _ _ _ _ _ _ _ hi, show vl p a 1 = ubit p a by simp [vl]] at t
    have e1 : ((ubit p a : Int) == 1) = decide (ubit p a = 1) := by
      rw [Bool.eq_iff_iff]; simp; omega
    simp only [rvF, Rr.at]
    generalize tG H i p n (a + 1) X B4 (tB s i c (H.length + 4) hl) = Hz at *
    refine CallOk.body (F0 := [(0, .ptr (H.length + 5) 0 0)]) Try.func94 rfl Try.ntmps94 Try.results94 rfl (by kernel_rfl) rfl ?_
    (repeat refine PW.seq ?_); refine PW.rg rfl fun K hK => ?_; simp (maxSteps := 3000000) (disch := omega) only [go_sem, ↓reduceIte, reduceCtorEq, pappend, plen]; refine hK _ _ ?_; clear hK K
    (repeat refine PW.seq ?_); refine PW.rg rfl fun K hK => ?_; simp (maxSteps := 3000000) (disch := omega) only [go_sem, ↓reduceIte, reduceCtorEq, pappend, plen, g5, tB_v, tB_c, pc8]; refine VCx.call (t) rfl ?_; simp (maxSteps := 3000000) (disch := omega) only [go_sem, ↓reduceIte, reduceCtorEq, pappend, plen, g5, tB_v, tB_c, pc8]; refine hK _ _ ?_; clear hK K
    (repeat refine PW.seq ?_); refine PW.rg rfl fun K hK => ?_; simp (maxSteps := 3000000) (disch := omega) only [go_sem, ↓reduceIte, reduceCtorEq, pappend, plen, e1]; refine hK _ _ ?_; clear hK K
    exact PW.ret ⟨_, rfl, Fin.now⟩
  | er e a1 =>
    obtain ⟨rfl, rfl, h2⟩ := tkF_e hf
    have t := rtake_short i p n a1 1 _ gi (by omega) (by omega) (by omega) (by omega)
    simp only [rvF, Rr.at]
    refine CallOk.body (F0 := [(0, .ptr (H.length + 5) 0 0)]) Try.func94 rfl Try.ntmps94 Try.results94 rfl (by kernel_rfl) rfl ?_
    (repeat refine PW.seq ?_); refine PW.rg rfl fun K hK => ?_; simp (maxSteps := 3000000) (disch := omega) only [go_sem, ↓reduceIte, reduceCtorEq, pappend, plen]; refine hK _ _ ?_; clear hK K
    (repeat refine PW.seq ?_); refine PW.rg rfl fun K hK => ?_; simp (maxSteps := 3000000) (disch := omega) only [go_sem, ↓reduceIte, reduceCtorEq, pappend, plen, g5, tB_v, tB_c, pc8]; refine VCx.call (t) rfl ?_; simp (maxSteps := 3000000) (disch := omega) only [go_sem, ↓reduceIte, reduceCtorEq, pappend, plen, g5, tB_v, tB_c, pc8]; refine hK _ _ ?_; clear hK K
    (repeat refine PW.seq ?_); refine PW.rg rfl fun K hK => ?_; simp (maxSteps := 3000000) (disch := omega) only [go_sem, ↓reduceIte, reduceCtorEq, pappend, plen]; refine hK _ _ ?_; clear hK K
    exact PW.ret ⟨_, rfl, Fin.now⟩
theorem tdist_ok (pr : Int) (most : Nat) (hm : most ≤ 4095) (hpr : -4095 ≤ pr ∧ pr ≤ 4095) : CallOk Try.prog 98 [.ptr (H.length + 5) 0 0, .int .i64 pr, .int .i64 (most : Int)] (tG H i p n a X B4 (tB s i c (H.length + 4) hl)) (rvS (tkD p n pr most a)) (tG H i p n (tkD p n pr most a).at X B4 (tB s i c (H.length + 4) hl)) := by
  have g5 := fun a => tG_5 H i p n a X B4 (tB s i c (H.length + 4) hl) hX
  have gi := tG_i H i p n a X B4 (tB s i c (H.length + 4) hl) hi
  have pc8 : (tC s i c (H.length + 4) hl)[8]? = some (.ptr i 0 0) := rfl
  have t := tks_ok i p n a _ gi ha hn hp
  have wo := fun x K => win_ok x most K (by omega)
  rw [tG_si _ _ _ _ _ _ _ _ hi] at t
  unfold tkD
  cases hs : tkS p n a with
  | er e a1 =>
    rw [hs] at t
    simp only [Rr.bind, rvS, Rr.at] at t ⊢
    have he := (tkS_e hs).2
    have d0 : ((e : Int) + 1 != 0) = true := by simp; omega
    generalize tG H i p n a1 X B4 (tB s i c (H.length + 4) hl) = Hz at *
    refine CallOk.body (F0 := [(0, .ptr (H.length + 5) 0 0), (1, .int .i64 pr), (2, .int .i64 (most : Int))]) Try.func98 rfl Try.ntmps98 Try.results98 rfl (by kernel_rfl) rfl ?_
    (repeat refine PW.seq ?_); refine PW.rg rfl fun K hK => ?_; simp (maxSteps := 3000000) (disch := omega) only [go_sem, ↓reduceIte, reduceCtorEq, pappend, plen]; refine hK _ _ ?_; clear hK K
    (repeat refine PW.seq ?_); refine PW.rg rfl fun K hK => ?_; simp (maxSteps := 3000000) (disch := omega) only [go_sem, ↓reduceIte, reduceCtorEq, pappend, plen, g5, tB_v, tB_c, pc8]; refine VCx.call (t) rfl ?_; simp (maxSteps := 3000000) (disch := omega) only [go_sem, ↓reduceIte, reduceCtorEq, pappend, plen, g5, tB_v, tB_c, pc8]; refine hK _ _ ?_; clear hK K
    (repeat refine PW.seq ?_); refine PW.rg rfl fun K hK => ?_; simp (maxSteps := 3000000) (disch := omega) only [go_sem, ↓reduceIte, reduceCtorEq, pappend, plen, d0]; refine hK _ _ ?_; clear hK K
    (repeat refine PW.seq ?_); refine PW.cond (t := _) rfl (fun h => ?_) (fun h => ?_)
    rotate_left
    · cases h
    (repeat refine PW.seq ?_); refine PW.rg rfl fun K hK => ?_; simp (maxSteps := 3000000) (disch := omega) only [go_sem, ↓reduceIte, reduceCtorEq, pappend, plen]; refine hK _ _ ?_; clear hK K
    exact PW.ret ⟨_, rfl, Fin.now⟩
  | ok d a1 =>
    rw [hs] at t
    have b := (tkS_b hs ha).1
    simp only [Rr.bind, rvS, Rr.at] at t
    have wd := fun K => wo (pr + d) K
    refine CallOk.body (F0 := [(0, .ptr (H.length + 5) 0 0), (1, .int .i64 pr), (2, .int .i64 (most : Int))]) Try.func98 rfl Try.ntmps98 Try.results98 rfl (by kernel_rfl) rfl ?_
    (repeat refine PW.seq ?_); refine PW.rg rfl fun K hK => ?_; simp (maxSteps := 3000000) (disch := omega) only [go_sem, ↓reduceIte, reduceCtorEq, pappend, plen]; refine hK _ _ ?_; clear hK K
    (repeat refine PW.seq ?_); refine PW.rg rfl fun K hK => ?_; simp (maxSteps := 3000000) (disch := omega) only [go_sem, ↓reduceIte, reduceCtorEq, pappend, plen, g5, tB_v, tB_c, pc8]; refine VCx.call (t) rfl ?_; simp (maxSteps := 3000000) (disch := omega) only [go_sem, ↓reduceIte, reduceCtorEq, pappend, plen, g5, tB_v, tB_c, pc8]; refine hK _ _ ?_; clear hK K
    (repeat refine PW.seq ?_); refine PW.rg rfl fun K hK => ?_; simp (maxSteps := 3000000) (disch := omega) only [go_sem, ↓reduceIte, reduceCtorEq, pappend, plen]; refine hK _ _ ?_; clear hK K
    (repeat refine PW.seq ?_); refine PW.cond (t := _) rfl (fun h => ?_) (fun h => ?_)
    · cases h
    refine PW.skip ?_
    simp only [Rr.bind]
    cases hw : win (pr + d) most with
    | true =>
      rw [hw] at wd
      (repeat refine PW.seq ?_); refine PW.rg rfl fun K hK => ?_; simp (maxSteps := 3000000) (disch := omega) only [go_sem, ↓reduceIte, reduceCtorEq, pappend, plen]
      refine VCx.call (wd _) rfl ?_; simp (maxSteps := 3000000) (disch := omega) only [go_sem, ↓reduceIte, reduceCtorEq, pappend, plen]; refine hK _ _ ?_; clear hK K
      (repeat refine PW.seq ?_); refine PW.cond (t := _) rfl (fun h => ?_) (fun h => ?_)
      · cases h
      refine PW.skip ?_
      (repeat refine PW.seq ?_); refine PW.rg rfl fun K hK => ?_; simp (maxSteps := 3000000) (disch := omega) only [go_sem, ↓reduceIte, reduceCtorEq, pappend, plen]; refine hK _ _ ?_; clear hK K
      exact PW.ret ⟨_, rfl, Fin.now⟩
    | false =>
      rw [hw] at wd
      (repeat refine PW.seq ?_); refine PW.rg rfl fun K hK => ?_; simp (maxSteps := 3000000) (disch := omega) only [go_sem, ↓reduceIte, reduceCtorEq, pappend, plen]
      refine VCx.call (wd _) rfl ?_; simp (maxSteps := 3000000) (disch := omega) only [go_sem, ↓reduceIte, reduceCtorEq, pappend, plen]; refine hK _ _ ?_; clear hK K
      (repeat refine PW.seq ?_); refine PW.cond (t := _) rfl (fun h => ?_) (fun h => ?_)
      rotate_left
      · cases h
      (repeat refine PW.seq ?_); refine PW.rg rfl fun K hK => ?_; simp (maxSteps := 3000000) (disch := omega) only [go_sem, ↓reduceIte, reduceCtorEq, pappend, plen]; refine hK _ _ ?_; clear hK K
      exact PW.ret ⟨_, rfl, Fin.now⟩
end

end Go.Proofs.Ytcabpncdgagihaa.Sc

namespace Go.Proofs.Ytcabpncdgagihaa.Sc
set_option linter.all false
set_option linter.unusedVariables false
set_option linter.unusedSimpArgs false
open Pm Ty Go.RowKit

theorem mbc_sk (m : Mb) (x : Int) : (mbc m).set 0 (.int .i64 x) = mbc { m with k := x } := rfl
theorem mbc_su (m : Mb) (x y : Bool) : List.take 1 (mbc m) ++ .bool x :: .bool y :: List.drop 3 (mbc m) = mbc { m with ua := x, ub := y } := rfl
theorem mbc_sc6 (m : Mb) (b0 b1 b2 b3 b4 b5 : Bool) : List.take 18 (mbc m) ++ .bool b0 :: .bool b1 :: .bool b2 :: .bool b3 :: .bool b4 :: .bool b5 :: List.drop 24 (mbc m) = mbc { m with ca := b0, cb := b1, cc := b2, cd := b3, ce := b4, cf := b5 } := rfl
theorem mB_of (m : Mb) : (⟨49, 0, mbc m⟩ : Blk) = mB m := rfl
theorem tB_of (s : St) (w : Nat) (c : Cx) (mi : Nat) (hl : Bool) : (⟨126, 0, tC s w c mi hl⟩ : Blk) = tB s w c mi hl := rfl
theorem tC_sh (s : St) (w : Nat) (c : Cx) (mi : Nat) (hl b : Bool) : (tC s w c mi hl).set 14 (.bool b) = tC s w c mi b := rfl
theorem tC_mi (s : St) (w : Nat) (c : Cx) (mi : Nat) (hl : Bool) : (tC s w c mi hl)[13]? = some (.ptr mi 0 0) := rfl
theorem tC_w (s : St) (w : Nat) (c : Cx) (mi : Nat) (hl : Bool) : (tC s w c mi hl)[8]? = some (.ptr w 0 0) := rfl
theorem tC_t (s : St) (w : Nat) (c : Cx) (mi : Nat) (hl : Bool) : (tC s w c mi hl)[9]? = some (.int .i64 c.t) := rfl
theorem tC_c (s : St) (w : Nat) (c : Cx) (mi : Nat) (hl : Bool) : List.take 4 (List.drop 9 (tC s w c mi hl)) = cxc c := rfl
theorem tC_hl (s : St) (w : Nat) (c : Cx) (mi : Nat) (hl : Bool) : (tC s w c mi hl)[14]? = some (.bool hl) := rfl
theorem tC_len (s : St) (w : Nat) (c : Cx) (mi : Nat) (hl : Bool) : (tC s w c mi hl).length = 15 := rfl

theorem allb_ok (H : Heap) : CallOk Try.prog 60 [] H (.agg [.bool true, .bool true, .bool true, .bool true, .bool true, .bool true]) H := by
  refine CallOk.body (F0 := []) Try.func60 rfl Try.ntmps60 Try.results60 rfl (by kernel_rfl) rfl ?_
  (repeat refine PW.seq ?_); refine PW.rg rfl fun K hK => ?_; simp (maxSteps := 3000000) (disch := omega) only [go_sem, ↓reduceIte, reduceCtorEq, pappend, plen]; refine hK _ _ ?_; clear hK K
  (repeat refine PW.seq ?_); refine PW.rg rfl fun K hK => ?_; simp (maxSteps := 3000000) (disch := omega) only [go_sem, ↓reduceIte, reduceCtorEq, pappend, plen]; refine hK _ _ ?_; clear hK K
  refine PW.ret ⟨.agg [.bool true, .bool true, .bool true, .bool true, .bool true, .bool true], by simp (maxSteps := 3000000) (disch := omega) only [go_sem, ↓reduceIte, reduceCtorEq, pappend, plen, presults, presult, List.mapM_cons, List.mapM_nil, Option.pure_def, Option.bind_eq_bind, Option.bind_some, Array.toList], ?_⟩
  exact Fin.base (.id (ag_scoped (fs_scoped _ [true, true, true, true, true, true])))

section
variable (H : Heap) (i : Nat) (p : List UInt8) (n a : Nat) (X : Heap) (c : Cx) (s : St) (hl : Bool) (hX : X.length = 4)
include hX
theorem tintra_ok (m : Mb) (hml : m.lv.length = 384) : CallOk Try.prog 92 [.ptr (H.length + 5) 0 0] (tG H i p n a X (mB m) (tB s i c (H.length + 4) hl)) (.tup []) (tG H i p n a X (mB { m with k := 1, ca := true, cb := true, cc := true, cd := true, ce := true, cf := true }) (tB s i c (H.length + 4) true)) := by
  have g5 := fun B4 B5 => tG_5 H i p n a X B4 B5 hX
  have g4 := fun B4 B5 => tG_4 H i p n a X B4 B5 hX
  have s5 := fun B4 B5 B => tG_s5 H i p n a X B4 B5 hX B
  have s4 := fun B4 B5 B => tG_s4 H i p n a X B4 B5 hX B
  have hlen := mbc_len m hml
  have al := fun K => allb_ok K
  refine CallOk.body (F0 := [(0, .ptr (H.length + 5) 0 0)]) Try.func92 rfl Try.ntmps92 Try.results92 rfl (by kernel_rfl) rfl ?_
  (repeat refine PW.seq ?_); refine PW.rg rfl fun K hK => ?_; simp (maxSteps := 3000000) (disch := omega) only [go_sem, ↓reduceIte, reduceCtorEq, pappend, plen, g5, g4, s4, s5, tB_v, tB_c, tC_mi, mB_v, mB_c, mB_e, mbc_sk, mB_of, hlen]; refine hK _ _ ?_; clear hK K
  have hlen2 := mbc_len { m with k := 1 } hml
  (repeat refine PW.seq ?_); refine PW.draw mix (by kernel_rfl) fun K hK => ?_; simp (maxSteps := 3000000) (disch := omega) only [go_sem, ↓reduceIte, reduceCtorEq, pappend, plen, g5, g4, s4, s5, tB_v, tB_c, tC_mi, mB_v, mB_c, mB_e, mB_of, hlen2]
  refine VCy.callP al rfl ?_; simp (maxSteps := 3000000) (disch := omega) only [go_sem, ↓reduceIte, reduceCtorEq, pappend, plen, g5, g4, s4, s5, tB_v, tB_c, tC_mi, mB_v, mB_c, mB_e, mB_of, hlen2, mbc_sc6, Nat.reduceAdd]; refine hK _ _ ?_; clear hK K
  (repeat refine PW.seq ?_); refine PW.rg rfl fun K hK => ?_; simp (maxSteps := 3000000) (disch := omega) only [go_sem, ↓reduceIte, reduceCtorEq, pappend, plen, g5, g4, s4, s5, tB_v, tB_c, tB_e, tC_mi, tC_sh, tC_len, tB_of]; refine hK _ _ ?_; clear hK K
  exact Exists.intro _ (And.intro rfl Fin.now)
end
/-- What a part returns. -/
def ecd : Nat → PV := fun e => .int .i64 ((e : Int) + 1)
theorem zl384_len : zl384.length = 384 := by unfold zl384; exact List.length_replicate
section
variable (H : Heap) (i : Nat) (p : List UInt8) (n a : Nat) (X : Heap) (c : Cx) (s : St) (hi : i < H.length) (hX : X.length = 4) (ha : a ≤ n) (hn : n ≤ 8 * p.length) (hp : p.length ≤ 100000000)
include hi hX ha hn hp
theorem tkind_ok : CallOk Try.prog 55 [.ptr (H.length + 5) 0 0] (tG H i p n a X (mB zMb) (tB s i c (H.length + 4) false))
    (match tkKd c p n a with | .ok _ _ => .int .i64 0 | .er e _ => ecd e)
    (match tkKd c p n a with | .ok x a1 => tG H i p n a1 X (mB x.1) (tB s i c (H.length + 4) x.2) | .er _ a1 => tG H i p n a1 X (mB zMb) (tB s i c (H.length + 4) false)) := by
  have g5 := fun a B4 B5 => tG_5 H i p n a X B4 B5 hX
  have g4 := fun a B4 B5 => tG_4 H i p n a X B4 B5 hX
  have s5 := fun a B4 B5 B => tG_s5 H i p n a X B4 B5 hX B
  have s4 := fun a B4 B5 B => tG_s4 H i p n a X B4 B5 hX B
  have ti := fun a => tintra_ok H i p n a X c s false hX zMb zl384_len
  have hzl := mbc_len zMb zl384_len
  refine CallOk.body (F0 := [(0, .ptr (H.length + 5) 0 0)]) Try.func55 rfl Try.ntmps55 Try.results55 rfl (by kernel_rfl) rfl ?_
  (repeat refine PW.seq ?_); refine PW.rg rfl fun K hK => ?_; simp (maxSteps := 3000000) (disch := omega) only [go_sem, ↓reduceIte, reduceCtorEq, pappend, plen]; refine hK _ _ ?_; clear hK K
  by_cases ht1 : c.t = 1
  · have q1 : (c.t == 1) = true := by simp [ht1]
    (repeat refine PW.seq ?_); refine PW.rg rfl fun K hK => ?_; simp (maxSteps := 3000000) (disch := omega) only [go_sem, ↓reduceIte, reduceCtorEq, pappend, plen, g5, tB_v, tB_c, tC_t, q1]; refine hK _ _ ?_; clear hK K
    (repeat refine PW.seq ?_); refine PW.cond (t := _) rfl (fun h => ?_) (fun h => ?_)
    rotate_left
    · cases h
    (repeat refine PW.seq ?_); refine PW.rg rfl fun K hK => ?_; simp (maxSteps := 3000000) (disch := omega) only [go_sem, ↓reduceIte, reduceCtorEq, pappend, plen]; refine VCx.call (ti _) rfl ?_; simp (maxSteps := 3000000) (disch := omega) only [go_sem, ↓reduceIte, reduceCtorEq, pappend, plen]; refine hK _ _ ?_; clear hK K
    (repeat refine PW.seq ?_); refine PW.rg rfl fun K hK => ?_; simp (maxSteps := 3000000) (disch := omega) only [go_sem, ↓reduceIte, reduceCtorEq, pappend, plen]; refine hK _ _ ?_; clear hK K
    refine PW.ret ⟨_, rfl, ?_⟩
    have hk : tkKd c p n a = .ok (inMb, true) a := by unfold tkKd; rw [if_pos ht1]
    rw [hk]
    exact Fin.now
  have q1 : (c.t == 1) = false := by simp [ht1]
  have tu := tku_ok i p n a _ (tG_i H i p n a X (mB zMb) (tB s i c (H.length + 4) false) hi) ha hn hp
  rw [tG_si _ _ _ _ _ _ _ _ hi] at tu
  have hk : tkKd c p n a = (tkU p n a).bind fun v a1 => if (if c.t = 2 then 3 else 7) < v then .er 2 a1 else if v = (if c.t = 2 then 3 else 7) then .ok (inMb, true) a1 else if v = 0 then .ok (zMb, false) a1 else .ok (peMb v, decide (v % 2 = 0)) a1 := by unfold tkKd; rw [if_neg ht1]
  (repeat refine PW.seq ?_); refine PW.rg rfl fun K hK => ?_; simp (maxSteps := 3000000) (disch := omega) only [go_sem, ↓reduceIte, reduceCtorEq, pappend, plen, g5, tB_v, tB_c, tC_t, q1]; refine hK _ _ ?_; clear hK K
  (repeat refine PW.seq ?_); refine PW.cond (t := _) rfl (fun h => ?_) (fun h => ?_)
  · cases h
  refine PW.skip ?_
  cases hu : tkU p n a with
  | er e a1 =>
    rw [hu] at tu hk
    rw [hk]
    simp only [rvU, Rr.at, Rr.bind] at tu ⊢
    have d0 : ((e : Int) + 1 != 0) = true := by simp; omega
    have he := (tkU_e hu).2
    (repeat refine PW.seq ?_); refine PW.rg rfl fun K hK => ?_; simp (maxSteps := 3000000) (disch := omega) only [go_sem, ↓reduceIte, reduceCtorEq, pappend, plen, g5, tB_v, tB_c, tC_w]; refine VCx.call (tu) rfl ?_; simp (maxSteps := 3000000) (disch := omega) only [go_sem, ↓reduceIte, reduceCtorEq, pappend, plen, g5, tB_v, tB_c, tC_w]; refine hK _ _ ?_; clear hK K
    (repeat refine PW.seq ?_); refine PW.rg rfl fun K hK => ?_; simp (maxSteps := 3000000) (disch := omega) only [go_sem, ↓reduceIte, reduceCtorEq, pappend, plen, d0]; refine hK _ _ ?_; clear hK K
    (repeat refine PW.seq ?_); refine PW.cond (t := _) rfl (fun h => ?_) (fun h => ?_)
    rotate_left
    · cases h
    (repeat refine PW.seq ?_); refine PW.rg rfl fun K hK => ?_; simp (maxSteps := 3000000) (disch := omega) only [go_sem, ↓reduceIte, reduceCtorEq, pappend, plen]; refine hK _ _ ?_; clear hK K
    exact PW.ret ⟨_, rfl, Fin.now⟩
  | ok v a1 =>
    have hb := tkU_b hu ha
    rw [hu] at tu hk
    rw [hk]
    simp only [rvU, Rr.at, Rr.bind] at tu ⊢
    clear hk hu
    (repeat refine PW.seq ?_); refine PW.rg rfl fun K hK => ?_; simp (maxSteps := 3000000) (disch := omega) only [go_sem, ↓reduceIte, reduceCtorEq, pappend, plen, g5, tB_v, tB_c, tC_w]; refine VCx.call (tu) rfl ?_; simp (maxSteps := 3000000) (disch := omega) only [go_sem, ↓reduceIte, reduceCtorEq, pappend, plen, g5, tB_v, tB_c, tC_w]; refine hK _ _ ?_; clear hK K
    (repeat refine PW.seq ?_); refine PW.rg rfl fun K hK => ?_; simp (maxSteps := 3000000) (disch := omega) only [go_sem, ↓reduceIte, reduceCtorEq, pappend, plen]; refine hK _ _ ?_; clear hK K
    (repeat refine PW.seq ?_); refine PW.cond (t := _) rfl (fun h => ?_) (fun h => ?_)
    · cases h
    refine PW.skip ?_
    (repeat refine PW.seq ?_); refine PW.rg rfl fun K hK => ?_; simp (maxSteps := 3000000) (disch := omega) only [go_sem, ↓reduceIte, reduceCtorEq, pappend, plen]; refine hK _ _ ?_; clear hK K
    refine PW.to [0, 3, 5] [(0, .ptr (H.length + 5) 0 0), (3, .int .i64 (v : Int)), (5, .int .i64 ((if c.t = 2 then 3 else 7 : Nat) : Int))] (tG H i p n a1 X (mB zMb) (tB s i c (H.length + 4) false)) ?_ ?_
    · by_cases ht2 : c.t = 2
      · have q2 : (c.t == 2) = true := by simp [ht2]
        rw [if_pos ht2]
        (repeat refine PW.seq ?_); refine PW.rg rfl fun K hK => ?_; simp (maxSteps := 3000000) (disch := omega) only [go_sem, ↓reduceIte, reduceCtorEq, pappend, plen, g5, tB_v, tB_c, tC_t, q2]; refine hK _ _ ?_; clear hK K
        (repeat refine PW.seq ?_); refine PW.cond (t := _) rfl (fun h => ?_) (fun h => ?_)
        rotate_left
        · cases h
        (repeat refine PW.seq ?_); refine PW.rg rfl fun K hK => ?_; simp (maxSteps := 3000000) (disch := omega) only [go_sem, ↓reduceIte, reduceCtorEq, pappend, plen]; refine hK _ _ ?_; clear hK K
        exact ⟨rfl, rfl⟩
      · have q2 : (c.t == 2) = false := by simp [ht2]
        rw [if_neg ht2]
        (repeat refine PW.seq ?_); refine PW.rg rfl fun K hK => ?_; simp (maxSteps := 3000000) (disch := omega) only [go_sem, ↓reduceIte, reduceCtorEq, pappend, plen, g5, tB_v, tB_c, tC_t, q2]; refine hK _ _ ?_; clear hK K
        (repeat refine PW.seq ?_); refine PW.cond (t := _) rfl (fun h => ?_) (fun h => ?_)
        · cases h
        exact PW.skip ⟨rfl, rfl⟩
    have hL : (if c.t = 2 then 3 else 7 : Nat) ≤ 7 := by split <;> omega
    have hL0 : 3 ≤ (if c.t = 2 then 3 else 7 : Nat) := by split <;> omega
    generalize (if c.t = 2 then 3 else 7 : Nat) = last at *
    (repeat refine PW.seq ?_); refine PW.block ?_
    by_cases h1 : last < v
    · have d1 : decide ((last : Int) < (v : Int)) = true := decide_eq_true (by omega)
      rw [if_pos h1]
      (repeat refine PW.seq ?_); refine PW.rg rfl fun K hK => ?_; simp (maxSteps := 3000000) (disch := omega) only [go_sem, ↓reduceIte, reduceCtorEq, pappend, plen, d1]; refine hK _ _ ?_; clear hK K
      (repeat refine PW.seq ?_); refine PW.cond (t := _) rfl (fun h => ?_) (fun h => ?_)
      rotate_left
      · cases h
      (repeat refine PW.seq ?_); refine PW.rg rfl fun K hK => ?_; simp (maxSteps := 3000000) (disch := omega) only [go_sem, ↓reduceIte, reduceCtorEq, pappend, plen]; refine hK _ _ ?_; clear hK K
      exact PW.ret ⟨_, rfl, Fin.now⟩
    have d1 : decide ((last : Int) < (v : Int)) = false := decide_eq_false (by omega)
    rw [if_neg h1]
    (repeat refine PW.seq ?_); refine PW.rg rfl fun K hK => ?_; simp (maxSteps := 3000000) (disch := omega) only [go_sem, ↓reduceIte, reduceCtorEq, pappend, plen, d1]; refine hK _ _ ?_; clear hK K
    (repeat refine PW.seq ?_); refine PW.cond (t := _) rfl (fun h => ?_) (fun h => ?_)
    · cases h
    by_cases h2 : v = last
    · have d2 : ((v : Int) == (last : Int)) = true := by simp [h2]
      rw [if_pos h2]
      (repeat refine PW.seq ?_); refine PW.rg rfl fun K hK => ?_; simp (maxSteps := 3000000) (disch := omega) only [go_sem, ↓reduceIte, reduceCtorEq, pappend, plen, d2]; refine hK _ _ ?_; clear hK K
      (repeat refine PW.seq ?_); refine PW.cond (t := _) rfl (fun h => ?_) (fun h => ?_)
      rotate_left
      · cases h
      (repeat refine PW.seq ?_); refine PW.rg rfl fun K hK => ?_; simp (maxSteps := 3000000) (disch := omega) only [go_sem, ↓reduceIte, reduceCtorEq, pappend, plen]; refine VCx.call (ti _) rfl ?_; simp (maxSteps := 3000000) (disch := omega) only [go_sem, ↓reduceIte, reduceCtorEq, pappend, plen]; refine hK _ _ ?_; clear hK K
      (repeat refine PW.seq ?_); refine PW.rg rfl fun K hK => ?_; simp (maxSteps := 3000000) (disch := omega) only [go_sem, ↓reduceIte, reduceCtorEq, pappend, plen]; refine hK _ _ ?_; clear hK K
      exact PW.ret ⟨_, rfl, Fin.now⟩
    have d2 : ((v : Int) == (last : Int)) = false := by rw [beq_eq_false_iff_ne]; omega
    rw [if_neg h2]
    (repeat refine PW.seq ?_); refine PW.rg rfl fun K hK => ?_; simp (maxSteps := 3000000) (disch := omega) only [go_sem, ↓reduceIte, reduceCtorEq, pappend, plen, d2]; refine hK _ _ ?_; clear hK K
    (repeat refine PW.seq ?_); refine PW.cond (t := _) rfl (fun h => ?_) (fun h => ?_)
    · cases h
    by_cases h3 : v = 0
    · have d3 : decide ((0 : Int) < (v : Int)) = false := decide_eq_false (by omega)
      rw [if_pos h3]
      (repeat refine PW.seq ?_); refine PW.rg rfl fun K hK => ?_; simp (maxSteps := 3000000) (disch := omega) only [go_sem, ↓reduceIte, reduceCtorEq, pappend, plen, d3]; refine hK _ _ ?_; clear hK K
      (repeat refine PW.seq ?_); refine PW.cond (t := _) rfl (fun h => ?_) (fun h => ?_)
      · cases h
      refine PW.skip ?_
      (repeat refine PW.seq ?_); refine PW.rg rfl fun K hK => ?_; simp (maxSteps := 3000000) (disch := omega) only [go_sem, ↓reduceIte, reduceCtorEq, pappend, plen]; refine hK _ _ ?_; clear hK K
      exact PW.ret ⟨_, rfl, Fin.now⟩
    have d3 : decide ((0 : Int) < (v : Int)) = true := decide_eq_true (by omega)
    rw [if_neg h3]
    (repeat refine PW.seq ?_); refine PW.rg rfl fun K hK => ?_; simp (maxSteps := 3000000) (disch := omega) only [go_sem, ↓reduceIte, reduceCtorEq, pappend, plen, d3]; refine hK _ _ ?_; clear hK K
    (repeat refine PW.seq ?_); refine PW.cond (t := _) rfl (fun h => ?_) (fun h => ?_)
    rotate_left
    · cases h
    have hv7 : v < 7 := by omega
    have h6 : v = 1 ∨ v = 2 ∨ v = 3 ∨ v = 4 ∨ v = 5 ∨ v = 6 := by omega
    have hm6 : mbc { zMb with k := 2 } = mbc { zMb with k := 2 } := rfl
    have hzl2 := mbc_len { zMb with k := 2 } zl384_len
    clear h1 h2 h3 d1 d2 d3 hb hL hL0 tu
    (repeat refine PW.seq ?_); refine PW.rg rfl fun K hK => ?_; simp (maxSteps := 3000000) (disch := omega) only [go_sem, ↓reduceIte, reduceCtorEq, pappend, plen, g5, g4, s4, s5, tB_v, tB_c, tC_mi, mB_v, mB_c, mB_e, mbc_sk, mB_of, hzl]; refine hK _ _ ?_; clear hK K
    rcases h6 with rfl | rfl | rfl | rfl | rfl | rfl
    all_goals
      (repeat refine PW.seq ?_); refine PW.rg rfl fun K hK => ?_; simp (maxSteps := 3000000) (disch := omega) only [go_sem, ↓reduceIte, reduceCtorEq, pappend, plen, g5, g4, s4, s5, tB_v, tB_c, tC_mi, mB_v, mB_c, mB_e, mbc_su, mB_of, hzl2, Nat.reduceAdd]; refine hK _ _ ?_; clear hK K
      (repeat refine PW.seq ?_); refine PW.rg rfl fun K hK => ?_; simp (maxSteps := 3000000) (disch := omega) only [go_sem, ↓reduceIte, reduceCtorEq, pappend, plen, g5, s5, tB_v, tB_c, tB_e, tC_sh, tC_len, tB_of]; refine hK _ _ ?_; clear hK K
      (repeat refine PW.seq ?_); refine PW.rg rfl fun K hK => ?_; simp (maxSteps := 3000000) (disch := omega) only [go_sem, ↓reduceIte, reduceCtorEq, pappend, plen]; refine hK _ _ ?_; clear hK K
      exact PW.ret ⟨_, rfl, Fin.now⟩
end

end Go.Proofs.Ytcabpncdgagihaa.Sc

namespace Go.Proofs.Ytcabpncdgagihaa.Sc
set_option linter.all false
set_option linter.unusedVariables false
set_option linter.unusedSimpArgs false
open Pm Ty Go.RowKit

theorem tC_x (s : St) (w : Nat) (c : Cx) (mi : Nat) (hl : Bool) (d : Nat) (hd : d < 2) : (tC s w c mi hl)[4 + d * 2]? = some (.int .i64 (sXs s d)) := by
  have : d = 0 ∨ d = 1 := by omega
  rcases this with rfl | rfl <;> rfl
theorem tC_y (s : St) (w : Nat) (c : Cx) (mi : Nat) (hl : Bool) (d : Nat) (hd : d < 2) : (tC s w c mi hl)[4 + d * 2 + 1]? = some (.int .i64 (sYs s d)) := by
  have : d = 0 ∨ d = 1 := by omega
  rcases this with rfl | rfl <;> rfl
theorem tC_sx (s : St) (w : Nat) (c : Cx) (mi : Nat) (hl : Bool) (d : Nat) (hd : d < 2) (x : Int) : (tC s w c mi hl).set (4 + d * 2) (.int .i64 x) = tC (setV s d x (sYs s d)) w c mi hl := by
  have : d = 0 ∨ d = 1 := by omega
  rcases this with rfl | rfl <;> rfl
theorem tC_sy (s : St) (w : Nat) (c : Cx) (mi : Nat) (hl : Bool) (d : Nat) (hd : d < 2) (y : Int) : (tC s w c mi hl).set (4 + d * 2 + 1) (.int .i64 y) = tC (setV s d (sXs s d) y) w c mi hl := by
  have : d = 0 ∨ d = 1 := by omega
  rcases this with rfl | rfl <;> rfl
theorem tC_v (s : St) (w : Nat) (c : Cx) (mi : Nat) (hl : Bool) (d : Nat) (hd : d < 2) : List.take 2 (List.drop (4 + d * 2) (tC s w c mi hl)) = [.int .i64 (sXs s d), .int .i64 (sYs s d)] := by
  have : d = 0 ∨ d = 1 := by omega
  rcases this with rfl | rfl <;> rfl
theorem setV_y (s : St) (d : Nat) (x y z : Int) : setV (setV s d x y) d x z = setV s d x z := by unfold setV; split <;> rfl
theorem setV_X (s : St) (d : Nat) (x y : Int) : sXs (setV s d x y) d = x := by unfold setV sXs; split <;> rfl
theorem setV_Y (s : St) (d : Nat) (x y : Int) : sYs (setV s d x y) d = y := by unfold setV sYs; split <;> rfl
theorem mbc_ss (m : Mb) (d k : Nat) (hd : d < 2) (hk : k < 2) (x : Int) : (mbc m).set (13 + d * 2 + k) (.int .i64 x) = mbc (setSl m d k x) := by
  have h1 : d = 0 ∨ d = 1 := by omega
  have h2 : k = 0 ∨ k = 1 := by omega
  rcases h1 with rfl | rfl <;> rcases h2 with rfl | rfl <;> rfl
theorem mbc_sv (m : Mb) (d k : Nat) (hd : d < 2) (hk : k < 2) (x y : Int) : List.take (5 + d * 4 + k * 2) (mbc m) ++ .int .i64 x :: .int .i64 y :: List.drop (5 + d * 4 + k * 2 + (1 + 1)) (mbc m) = mbc (setVm m d k x y) := by
  have h1 : d = 0 ∨ d = 1 := by omega
  have h2 : k = 0 ∨ k = 1 := by omega
  rcases h1 with rfl | rfl <;> rcases h2 with rfl | rfl <;> rfl
theorem setSl_lv (m : Mb) (d k : Nat) (x : Int) : (setSl m d k x).lv = m.lv := by unfold setSl; split <;> split <;> rfl
theorem setVm_lv (m : Mb) (d k : Nat) (x y : Int) : (setVm m d k x y).lv = m.lv := by unfold setVm; split <;> split <;> rfl

/-- What a part leaves behind. -/
def prtR (H : Heap) (i : Nat) (p : List UInt8) (n : Nat) (X : Heap) (c : Cx) (hl : Bool) (x : Rr (Mb × St)) : PV → Heap → Prop := fun v H' =>
  match x with
  | .ok y a => v = .int .i64 0 ∧ H' = tG H i p n a X (mB y.1) (tB y.2 i c (H.length + 4) hl)
  | .er e _ => v = ecd e ∧ ∃ a m s, a ≤ n ∧ m.lv.length = 384 ∧ H' = tG H i p n a X (mB m) (tB s i c (H.length + 4) hl)

section
variable (H : Heap) (i : Nat) (p : List UInt8) (n : Nat) (X : Heap) (c : Cx) (hl : Bool) (hi : i < H.length) (hX : X.length = 4) (hn : n ≤ 8 * p.length) (hp : p.length ≤ 100000000)
include hi hX hn hp
set_option maxHeartbeats 2000000 in
theorem tvec_ok (m : Mb) (s : St) (d k a : Nat) (hd : d < 2) (hk : k < 2) (hml : m.lv.length = 384) (hs : vrS s) (ha : a ≤ n) : CallEx Try.prog 95 [.ptr (H.length + 5) 0 0, .int .i64 (d : Int), .int .i64 (k : Int)] (tG H i p n a X (mB m) (tB s i c (H.length + 4) hl)) (prtR H i p n X c hl (tkVc c p n m s d k a)) := by
  have g5 := fun a B4 B5 => tG_5 H i p n a X B4 B5 hX
  have g4 := fun a B4 B5 => tG_4 H i p n a X B4 B5 hX
  have s5 := fun a B4 B5 B => tG_s5 H i p n a X B4 B5 hX B
  have s4 := fun a B4 B5 B => tG_s4 H i p n a X B4 B5 hX B
  have gi := fun a B4 B5 => tG_i H i p n a X B4 B5 hi
  have si := fun a B4 B5 a' => tG_si H i p n a X B4 B5 hi a'
  have hlen := mbc_len m hml
  have se := sel_ok c m (H.length + 4) _ (g4 a (mB m) (tB s i c (H.length + 4) hl))
  have tx := fun s => tC_x s i c (H.length + 4) hl d hd
  have ty := fun s => tC_y s i c (H.length + 4) hl d hd
  have tsx := fun s => tC_sx s i c (H.length + 4) hl d hd
  have tsy := fun s => tC_sy s i c (H.length + 4) hl d hd
  have tv := fun s => tC_v s i c (H.length + 4) hl d hd
  generalize hres : tkVc c p n m s d k a = res
  unfold tkVc at hres
  refine CallEx.body (F0 := [(0, .ptr (H.length + 5) 0 0), (1, .int .i64 (d : Int)), (2, .int .i64 (k : Int))]) Try.func95 rfl Try.ntmps95 Try.results95 rfl (by kernel_rfl) rfl ?_
  (repeat refine PW.seq ?_); refine PW.rg rfl fun K hK => ?_; simp (maxSteps := 3000000) (disch := omega) only [go_sem, ↓reduceIte, reduceCtorEq, pappend, plen]; refine hK _ _ ?_; clear hK K
  (repeat refine PW.seq ?_); refine PW.drawt [] [] mix (by kernel_rfl) fun K hK => ?_; simp (maxSteps := 3000000) (disch := omega) only [go_sem, ↓reduceIte, reduceCtorEq, pappend, plen, g5, tB_v, tB_c, tC_c, tC_mi, tC_len, Nat.reduceAdd, Nat.reduceLeDiff]
  refine VCj.now (se) rfl ?_; simp (maxSteps := 3000000) (disch := omega) only [go_sem, ↓reduceIte, reduceCtorEq, pappend, plen]; refine hK _ _ ?_; clear hK K
  suffices hrest : ∀ (m : Mb) (a : Nat), m.lv.length = 384 → a ≤ n → ((tkD p n (sXs s d) 63 a).bind fun x a2 => (tkD p n (sYs s d) 63 a2).bind fun y a3 => .ok (setVm m d k x y, setV s d x y) a3) = res →
      PW Try.prog _ _ [(0, .ptr (H.length + 5) 0 0), (1, .int .i64 (d : Int)), (2, .int .i64 (k : Int))] (tG H i p n a X (mB m) (tB s i c (H.length + 4) hl)) _ by
    cases hsel : (m.fp || fcx c) with
    | false =>
      rw [hsel, if_neg (by decide), Rr.bind_ok] at hres
      (repeat refine PW.seq ?_); refine PW.cond (t := _) rfl (fun h => ?_) (fun h => ?_)
      · cases h
      refine PW.skip ?_
      exact PW.at [0, 1, 2] (hrest m a hml ha hres) rfl rfl
    | true =>
      rw [hsel, if_pos rfl] at hres
      (repeat refine PW.seq ?_); refine PW.cond (t := _) rfl (fun h => ?_) (fun h => ?_)
      rotate_left
      · cases h
      by_cases han : a < n
      · have hf : tkF p n a = .ok (decide (ubit p a = 1)) (a + 1) := by unfold tkF; rw [if_pos han]
        rw [hf, Rr.bind_ok, Rr.bind_ok] at hres
        have hub := ubit_lt p a
        have t := rtake_ok i p n a 1 _ (gi a (mB m) (tB s i c (H.length + 4) hl)) (by omega) hn hp (by omega)
        rw [si, show vl p a 1 = ubit p a by simp [vl]] at t
        have hbn : ((decide (ubit p a = 1)).toNat : Int) = (ubit p a : Int) := by
          have : ubit p a = 0 ∨ ubit p a = 1 := by omega
          rcases this with e | e <;> rw [e] <;> rfl
        rw [hbn] at hres
        have hst := mbc_ss m d k hd hk (ubit p a : Int)
        (repeat refine PW.seq ?_); refine PW.rg rfl fun K hK => ?_; simp (maxSteps := 3000000) (disch := omega) only [go_sem, ↓reduceIte, reduceCtorEq, pappend, plen, g5, tB_v, tB_c, tC_w]; refine VCx.call (t) rfl ?_; simp (maxSteps := 3000000) (disch := omega) only [go_sem, ↓reduceIte, reduceCtorEq, pappend, plen, g5, tB_v, tB_c, tC_w]; refine hK _ _ ?_; clear hK K
        (repeat refine PW.seq ?_); refine PW.rg rfl fun K hK => ?_; simp (maxSteps := 3000000) (disch := omega) only [go_sem, ↓reduceIte, reduceCtorEq, pappend, plen]; refine hK _ _ ?_; clear hK K
        (repeat refine PW.seq ?_); refine PW.cond (t := _) rfl (fun h => ?_) (fun h => ?_)
        · cases h
        refine PW.skip ?_
        (repeat refine PW.seq ?_); refine PW.rg rfl fun K hK => ?_; simp (maxSteps := 3000000) (disch := omega) only [go_sem, ↓reduceIte, reduceCtorEq, pappend, plen, g5, g4, s4, tB_v, tB_c, tC_mi, mB_v, mB_c, mB_e, hlen, hst, mB_of]; refine hK _ _ ?_; clear hK K
        exact PW.at [0, 1, 2] (hrest _ (a + 1) (by rw [setSl_lv]; exact hml) (by omega) hres) rfl rfl
      · have hf : tkF p n a = .er 3 a := by unfold tkF; rw [if_neg han]
        rw [hf, Rr.bind_er, Rr.bind_er] at hres
        have t := rtake_short i p n a 1 _ (gi a (mB m) (tB s i c (H.length + 4) hl)) (by omega) (by omega) (by omega) (by omega)
        (repeat refine PW.seq ?_); refine PW.rg rfl fun K hK => ?_; simp (maxSteps := 3000000) (disch := omega) only [go_sem, ↓reduceIte, reduceCtorEq, pappend, plen, g5, tB_v, tB_c, tC_w]; refine VCx.call (t) rfl ?_; simp (maxSteps := 3000000) (disch := omega) only [go_sem, ↓reduceIte, reduceCtorEq, pappend, plen, g5, tB_v, tB_c, tC_w]; refine hK _ _ ?_; clear hK K
        (repeat refine PW.seq ?_); refine PW.rg rfl fun K hK => ?_; simp (maxSteps := 3000000) (disch := omega) only [go_sem, ↓reduceIte, reduceCtorEq, pappend, plen]; refine hK _ _ ?_; clear hK K
        (repeat refine PW.seq ?_); refine PW.cond (t := _) rfl (fun h => ?_) (fun h => ?_)
        rotate_left
        · cases h
        (repeat refine PW.seq ?_); refine PW.rg rfl fun K hK => ?_; simp (maxSteps := 3000000) (disch := omega) only [go_sem, ↓reduceIte, reduceCtorEq, pappend, plen]; refine hK _ _ ?_; clear hK K
        refine PW.ret ⟨_, rfl, .inl ?_⟩
        rw [← hres]
        exact ⟨rfl, a, m, s, ha, hml, rfl⟩
  clear hres ha hml hlen se
  intro m a hml ha hres
  have hlen := mbc_len m hml
  have hsd := hs d
  (repeat refine PW.seq ?_); refine PW.rg rfl fun K hK => ?_; simp (maxSteps := 3000000) (disch := omega) only [go_sem, ↓reduceIte, reduceCtorEq, pappend, plen, g5, tB_v]; refine hK _ _ ?_; clear hK K
  have t1 := tdist_ok H i p n a X (mB m) c s hl hi hX ha hn hp (sXs s d) 63 (by omega) (by omega)
  cases h1 : tkD p n (sXs s d) 63 a with
  | er e a1 =>
    have hb := tkD_e h1 ha
    rw [h1] at t1 hres
    simp only [rvS, Rr.at, Rr.bind] at t1 hres
    have d0 : ((e : Int) + 1 != 0) = true := by simp; omega
    (repeat refine PW.seq ?_); refine PW.rg rfl fun K hK => ?_; simp (maxSteps := 3000000) (disch := omega) only [go_sem, ↓reduceIte, reduceCtorEq, pappend, plen, g5, tB_v, tB_c, tx, s5, tsx, tB_e, tB_of, tC_len]; refine VCx.call (t1) rfl ?_; simp (maxSteps := 3000000) (disch := omega) only [go_sem, ↓reduceIte, reduceCtorEq, pappend, plen, g5, tB_v, tB_c, tx, s5, tsx, tB_e, tB_of, tC_len]; refine hK _ _ ?_; clear hK K
    (repeat refine PW.seq ?_); refine PW.rg rfl fun K hK => ?_; simp (maxSteps := 3000000) (disch := omega) only [go_sem, ↓reduceIte, reduceCtorEq, pappend, plen, d0]; refine hK _ _ ?_; clear hK K
    (repeat refine PW.seq ?_); refine PW.cond (t := _) rfl (fun h => ?_) (fun h => ?_)
    rotate_left
    · cases h
    (repeat refine PW.seq ?_); refine PW.rg rfl fun K hK => ?_; simp (maxSteps := 3000000) (disch := omega) only [go_sem, ↓reduceIte, reduceCtorEq, pappend, plen]; refine hK _ _ ?_; clear hK K
    refine PW.ret ⟨_, rfl, .inl ?_⟩
    rw [← hres]
    exact ⟨rfl, a1, m, _, hb.2.1, hml, rfl⟩
  | ok x a1 =>
    have hb := tkD_b h1 ha
    rw [h1] at t1 hres
    simp only [rvS, Rr.at] at t1
    rw [Rr.bind_ok] at hres
    (repeat refine PW.seq ?_); refine PW.rg rfl fun K hK => ?_; simp (maxSteps := 3000000) (disch := omega) only [go_sem, ↓reduceIte, reduceCtorEq, pappend, plen, g5, tB_v, tB_c, tx, s5, tsx, tB_e, tB_of, tC_len]; refine VCx.call (t1) rfl ?_; simp (maxSteps := 3000000) (disch := omega) only [go_sem, ↓reduceIte, reduceCtorEq, pappend, plen, g5, tB_v, tB_c, tx, s5, tsx, tB_e, tB_of, tC_len]; refine hK _ _ ?_; clear hK K
    (repeat refine PW.seq ?_); refine PW.rg rfl fun K hK => ?_; simp (maxSteps := 3000000) (disch := omega) only [go_sem, ↓reduceIte, reduceCtorEq, pappend, plen]; refine hK _ _ ?_; clear hK K
    (repeat refine PW.seq ?_); refine PW.cond (t := _) rfl (fun h => ?_) (fun h => ?_)
    · cases h
    refine PW.skip ?_
    have t2 := tdist_ok H i p n a1 X (mB m) c (setV s d x (sYs s d)) hl hi hX hb.2.2 hn hp (sYs s d) 63 (by omega) (by omega)
    have ty2 := ty (setV s d x (sYs s d))
    rw [setV_Y] at ty2
    have tsy2 := tsy (setV s d x (sYs s d))
    rw [setV_X] at tsy2
    simp only [setV_y] at tsy2
    cases h2 : tkD p n (sYs s d) 63 a1 with
    | er e a2 =>
      have hb2 := tkD_e h2 hb.2.2
      rw [h2] at t2 hres
      simp only [rvS, Rr.at, Rr.bind] at t2 hres
      have d0 : ((e : Int) + 1 != 0) = true := by simp; omega
      (repeat refine PW.seq ?_); refine PW.rg rfl fun K hK => ?_; simp (maxSteps := 3000000) (disch := omega) only [go_sem, ↓reduceIte, reduceCtorEq, pappend, plen, g5, tB_v, tB_c, ty2, s5, tsy2, tB_e, tB_of, tC_len]; refine VCx.call (t2) rfl ?_; simp (maxSteps := 3000000) (disch := omega) only [go_sem, ↓reduceIte, reduceCtorEq, pappend, plen, g5, tB_v, tB_c, ty2, s5, tsy2, tB_e, tB_of, tC_len]; refine hK _ _ ?_; clear hK K
      (repeat refine PW.seq ?_); refine PW.rg rfl fun K hK => ?_; simp (maxSteps := 3000000) (disch := omega) only [go_sem, ↓reduceIte, reduceCtorEq, pappend, plen, d0]; refine hK _ _ ?_; clear hK K
      (repeat refine PW.seq ?_); refine PW.cond (t := _) rfl (fun h => ?_) (fun h => ?_)
      rotate_left
      · cases h
      (repeat refine PW.seq ?_); refine PW.rg rfl fun K hK => ?_; simp (maxSteps := 3000000) (disch := omega) only [go_sem, ↓reduceIte, reduceCtorEq, pappend, plen]; refine hK _ _ ?_; clear hK K
      refine PW.ret ⟨_, rfl, .inl ?_⟩
      rw [← hres]
      exact ⟨rfl, a2, m, _, hb2.2.1, hml, rfl⟩
    | ok y a2 =>
      have hb2 := tkD_b h2 hb.2.2
      rw [h2] at t2 hres
      simp only [rvS, Rr.at] at t2
      rw [Rr.bind_ok] at hres
      have tv2 := tv (setV s d x y)
      rw [setV_X, setV_Y] at tv2
      have hsv := mbc_sv m d k hd hk x y
      (repeat refine PW.seq ?_); refine PW.rg rfl fun K hK => ?_; simp (maxSteps := 3000000) (disch := omega) only [go_sem, ↓reduceIte, reduceCtorEq, pappend, plen, g5, tB_v, tB_c, ty2, s5, tsy2, tB_e, tB_of, tC_len]; refine VCx.call (t2) rfl ?_; simp (maxSteps := 3000000) (disch := omega) only [go_sem, ↓reduceIte, reduceCtorEq, pappend, plen, g5, tB_v, tB_c, ty2, s5, tsy2, tB_e, tB_of, tC_len]; refine hK _ _ ?_; clear hK K
      (repeat refine PW.seq ?_); refine PW.rg rfl fun K hK => ?_; simp (maxSteps := 3000000) (disch := omega) only [go_sem, ↓reduceIte, reduceCtorEq, pappend, plen]; refine hK _ _ ?_; clear hK K
      (repeat refine PW.seq ?_); refine PW.cond (t := _) rfl (fun h => ?_) (fun h => ?_)
      · cases h
      refine PW.skip ?_
      (repeat refine PW.seq ?_); refine PW.drawi [H.length + 4] [(81, [0]), (87, [0]), (88, [0]), (89, [0]), (90, [0])] [] [] mix (by kernel_rfl) (by simp <;> omega) fun K hK => ?_
      simp (maxSteps := 3000000) (disch := omega) only [go_sem, ↓reduceIte, reduceCtorEq, pappend, plen, g5, g4, s4, tB_v, tB_c, tC_mi, tC_len, tv2, mB_v, mB_c, mB_e, hlen, hsv, mB_of]
      refine hK _ _ ?_; clear hK K
      (repeat refine PW.seq ?_); refine PW.rg rfl fun K hK => ?_; simp (maxSteps := 3000000) (disch := omega) only [go_sem, ↓reduceIte, reduceCtorEq, pappend, plen]; refine hK _ _ ?_; clear hK K
      refine PW.ret ⟨_, rfl, .inl ?_⟩
      rw [← hres]
      exact ⟨rfl, rfl⟩
end

end Go.Proofs.Ytcabpncdgagihaa.Sc
