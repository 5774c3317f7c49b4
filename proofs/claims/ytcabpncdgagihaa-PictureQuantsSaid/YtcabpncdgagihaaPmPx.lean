/-
  Calls that panic: the contract, a region that ends in such a call, a body that panics. No condition. Program-independent.
-/
import Derived.Test.YtcabpncdgagihaaPmF
namespace Go.Proofs.Ytcabpncdgagihaa.Pm
set_option linter.all false
set_option linter.unusedVariables false
set_option linter.unusedSimpArgs false
open Go.RowKit

variable {P : Program} {C : Ctx} {H : Heap} {w : World} {F : Fr} {a : Act} {N : Nat}

/-- Called with 'args' over H, function f panics with the chain ch and leaves H'. -/
def CallPan (P : Program) (f : FuncId) (args : List PV) (H : Heap) (ch : List PanicEntry) (H' : Heap) : Prop :=
  callable P f = true ∧ ∀ (C : Ctx) (us : List Value) (w : World), WRel C H w → VRels C args us →
    Calls P f us.toArray w fun e w' => ∃ C', CLe C C' ∧ WRel C' H' w' ∧ Below C.B w w' ∧ e = .panicked ch

/-- The first operations of a region by vops, the others as one likes. -/
theorem vops_then {all : List Oper} {K : Fr → Heap → Prop} {D : List Deferred} {rest : List Oper} : ∀ (l : List Oper) (F : Fr) (H : Heap), l.all (dstOk N) = true → vops P all l K F H → ∀ (C : Ctx) (a : Act) (w : World), a.defers = D → WRel C H w → FRel C N (slot F) a →
    ∀ Q : Exit → Act → World → Prop, (∀ C' F' H' a' w', CLe C C' → a'.defers = D → WRel C' H' w' → Below C.B w w' → FRel C' N (slot F') a' → K F' H' → wpList P all.toArray Q rest a' w') → wpList P all.toArray Q (l ++ rest) a w
  | [], F, H, _, h, C, a, w, hd, hw, hf, Q, hQ => hQ C F H a w (.refl _) hd hw (.refl _ _) hf h
  | o :: r, F, H, hall, h, C, a, w, hd, hw, hf, Q, hQ => by
    simp only [List.all_cons, Bool.and_eq_true] at hall
    simp only [vops] at h
    rw [List.cons_append]
    split at h
    · rename_i b hb
      have hwant := want_sound hf hb
      unfold wpList
      cases b with
      | true =>
        rw [if_pos hwant]
        left
        have h1 := h.1 rfl
        have step : ∀ R, ExecR P o (slot F) H R → (∀ v H', R v H' → vops P all r K (put F o.dst v) H') → o.wp P a w (wpList P all.toArray Q (r ++ rest)) Q := fun R he hr => by
          refine execR_sound hall.1 hw hf he _ _ fun C' u w' v H' q0 q1 q2 q3 q4 => ?_
          rw [← get_put] at q4
          refine vops_then (D := D) (rest := rest) r _ _ hall.2 (hr v H' q0) C' _ w' (by cases ho : o.dst <;> simp [Act.put, hd]) q2 q4 Q ?_
          intro C'' F'' H'' a'' w'' p1 p2 p3 p4 p5 p6
          exact hQ C'' F'' H'' a'' w'' (q1.trans p1) p2 p3 (q3.trans (by rw [← q1.B]; exact p4)) p5 p6
        split at h1
        · rename_i g args hc
          obtain ⟨R, hcall, hr⟩ := h1
          exact step R (by unfold ExecR; rw [hc]; exact hcall) hr
        · rename_i hc
          split at h1
          · rename_i v H' hp
            exact step (fun v' H'' => v' = v ∧ H'' = H') (by unfold ExecR; rw [hc]; exact ⟨v, H', hp, rfl, rfl⟩) (fun v' H'' e => by rw [e.1, e.2]; exact h1)
          · exact h1.elim
      | false =>
        rw [if_neg (by rw [hwant]; simp)]
        have h2 := h.2 rfl
        have q4 := hf.put o.dst (dstOk_of hall.1) (VRel.undefV (C := C))
        rw [← get_put] at q4
        exact vops_then (D := D) (rest := rest) r _ _ hall.2 h2 C _ w (by cases ho : o.dst <;> simp [Act.put, hd]) hw q4 Q hQ
    · exact h.elim

theorem execPan_sound {o : Oper} {f : Nat → PV} {g : FuncId} {args : List PV} {ch : List PanicEntry} {H' : Heap} (hw : WRel C H w) (hf : FRel C N f a) (hc : pcallee o.op f = some (g, args)) (h : CallPan P g args H ch H')
    (next : Act → World → Prop) (Q : Exit → Act → World → Prop) (hn : ∀ C' w', CLe C C' → WRel C' H' w' → Below C.B w w' → FRel C' N f a → Q (.panic ch) a w') : o.wp P a w next Q := by
  unfold pcallee at hc
  split at hc
  · rename_i x xs ts ho
    split at hc
    · rename_i f' first captured hfv
      simp only [Option.some.injEq, Prod.mk.injEq] at hc
      obtain ⟨rfl, rfl⟩ := hc
      have hv := ev_rel hf x
      rw [hfv] at hv
      obtain ⟨us, ws, hl, hl', hR, hR', he⟩ : ∃ us ws, us.length = first.length ∧ ws.length = captured.length ∧ Rel C first us ∧ Rel C captured ws ∧ a.eval x = .func (.func f') us.toArray ws.toArray := by
        generalize a.eval x = q at hv
        cases hv with
        | func hl hl' hR hR' => exact ⟨_, _, hl, hl', hR, hR', rfl⟩
      obtain ⟨hal, har⟩ := evs_rel hf xs.toList
      have hrun : (execOp a.eval o).run P w = .ok (.enter f' (us ++ xs.toList.map a.eval ++ ws).toArray) w := by
        have e1 : us.toArray ++ xs.map a.eval ++ ws.toArray = (us ++ xs.toList.map a.eval ++ ws).toArray := by
          apply Array.ext'; simp
        simp only [execOp, ho, resolve, he, Deferred.ofValue, invoke, Sem.run_bind, Sem.run_pure, Result.andThen_ok, run_callFunc h.1, e1]
      unfold Oper.wp
      rw [hrun, Oper.upon_enter]
      refine (h.2 C _ w hw ⟨by simp [hl, hl'], Rel.append (by simp [hl]) (Rel.append hl hR har) hR'⟩).mono ?_
      rintro e w' ⟨C', q1, q2, q3, rfl⟩
      exact hn C' w' q1 q2 q3 (hf.mono q1)
    · cases hc
  · cases hc

section rules
variable {E : Env} {Q : Exit → Fr → Heap → Prop}

/-- A region whose operation number n is a call that panics. -/
theorem PW.region_pan {id : Nat} {ops : Array Oper} (n : Nat) (hd : (ops.toList.take n).all (dstOk E.N) = true)
    (h : vops P ops.toList (ops.toList.take n) (fun F' H' => ∃ o r g args ch H'', ops.toList.drop n = o :: r ∧ want ops.toList (slot F') o = some true ∧ pcallee o.op (slot F') = some (g, args) ∧ CallPan P g args H' ch H'' ∧ Q (.panic ch) F' H'') F H) :
    PW P E (.region id ops false) F H Q := fun hs C a w hdf hw hf => by
  refine wp_region_list ?_
  have := vops_then (P := P) (all := ops.toList) (rest := ops.toList.drop n) (ops.toList.take n) F H hd h C a w hdf hw hf (Post E C w Q) (fun C' F' H' a' w' p1 p2 p3 p4 p5 p6 => by
    obtain ⟨o, r, g, args, ch, H'', e1, e2, e3, e4, e5⟩ := p6
    rw [e1]
    unfold wpList
    rw [if_pos (want_sound p5 e2)]
    left
    exact execPan_sound p3 p5 e3 e4 _ _ fun C'' w'' r1 r2 r3 r4 => ⟨C'', F', H'', (p1.trans r1).toN _, p2, r2, p4.trans (by rw [← p1.B]; exact r3), r4, e5⟩)
  rw [List.take_append_drop] at this
  simpa using this
end rules

/-- What is left of the heap when a body panics: all of it, or without its own blocks, or cut. -/
def POut (H : Heap) (Hout : Heap) (H' : Heap) : Prop := H' = Hout ∨ (∃ K, H' = H ++ K ∧ Hout = H) ∨ (HSc H → H.length ≤ Hout.length ∧ CutH H' Hout)
def panQ (ch : List PanicEntry) (H Hout : Heap) : Exit → Fr → Heap → Prop
  | .panic ch', _, H' => ch' = ch ∧ POut H Hout H'
  | _, _, _ => False

theorem CallPan.intro {f : FuncId} {fn : Func} {c : Code} {args : List PV} {ch : List PanicEntry} {Hout : Heap} (hf : P.funcs[f]? = some fn) (hb : fn.body = some c) (hcall : callable P f = true) (hn : args.length ≤ fn.ntmps)
    (h : PW P ⟨fn.ntmps, H⟩ c (argFr args 0) H (panQ ch H Hout)) : CallPan P f args H ch Hout := by
  refine ⟨hcall, fun C us w hw hargs => calls_of_wp hf hb ?_⟩
  have hfr : FRel C fn.ntmps (slot (argFr args 0)) { tmps := us.toArray ++ Array.replicate (fn.ntmps - us.toArray.size) Go.undef, defers := [] } := by
    refine ⟨by simp [hargs.1]; omega, fun t => ?_⟩
    rw [get_argFr]
    simp only [Nat.zero_le, if_true, Nat.sub_zero]
    by_cases ht : t < args.length
    · have htu : t < us.length := by rw [hargs.1]; exact ht
      have e1 : args.getD t .undef = args[t] := by simp [List.getD, ht]
      have e2 : (us.toArray ++ Array.replicate (fn.ntmps - us.toArray.size) Go.undef).getD t Go.undef = us[t] := by
        rw [Array.getD_eq_getD_getElem?, Array.getElem?_append_left (by simpa using htu)]
        simp [htu]
      rw [e1, e2]
      exact hargs.2 t _ _ (List.getElem?_eq_getElem ht) (List.getElem?_eq_getElem htu)
    · have e1 : args.getD t .undef = .undef := by simp [List.getD, List.getElem?_eq_none (by omega : args.length ≤ t)]
      rw [e1]
      exact .undef _
  refine wp_mono (h hw.hsc C _ w rfl hw hfr) ?_
  rintro e a' w' ⟨C', F', H', q1, q2, q3, q4, q5, q6⟩
  have q1' := q1.full hw.lenv
  cases e with
  | panic ch' =>
    obtain ⟨rfl, hp⟩ := q6
    refine ⟨q2, ?_⟩
    rcases hp with rfl | ⟨K, rfl, rfl⟩ | hp
    · exact ⟨C', q1', q3, q4, rfl⟩
    · obtain ⟨g1, g2⟩ := WRel.give hw q1' q3
      exact ⟨_, g1, g2, q4, rfl⟩
    · obtain ⟨hlen, hcut⟩ := hp hw.hsc
      obtain ⟨g1, g2⟩ := q3.cutN hcut
      exact ⟨_, (q1.trans (g1.less hlen)).full hw.lenv, g2, q4, rfl⟩
  | _ => exact q6.elim
theorem CallPan.body {f : FuncId} {fn : Func} {c : Code} {F0 : Fr} {args : List PV} {ch : List PanicEntry} {Hout : Heap} (hf : P.funcs[f]? = some fn) (hb : fn.body = some c) (hN : fn.ntmps = N) (hF : argFr args 0 = F0)
    (hcall : callable P f = true) (hn : Nat.ble args.length N = true) (h : PW P ⟨N, H⟩ c F0 H (panQ ch H Hout)) : CallPan P f args H ch Hout := by
  subst hN hF
  exact CallPan.intro hf hb hcall (Nat.le_of_ble_eq_true hn) h

end Go.Proofs.Ytcabpncdgagihaa.Pm
