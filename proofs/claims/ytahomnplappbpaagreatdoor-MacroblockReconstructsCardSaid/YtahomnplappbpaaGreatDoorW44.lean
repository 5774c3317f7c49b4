/-
  Parts of the proof, put together in one text. No condition.
-/
import Derived.Test.YtahomnplappbpaaGreatDoorW43
import Derived.Test.YtahomnplappbpaaGreatDoorW09
import Derived.Test.YtahomnplappbpaaGreatDoorRows
import Derived.LaidMore
import Derived.OpenShut
import Derived.MakeChecks
import Derived.LaidHandle
import Derived.FnData
namespace Go.Proofs.YtahomnplappbpaaGreatDoor.Sc
set_option linter.all false
set_option linter.unusedVariables false
set_option linter.unusedSimpArgs false
open Pm Ty Go.RowKit

set_option maxHeartbeats 3200000 in
set_option maxRecDepth 100000 in
theorem law_recon (c : Cx) (s : Sq) (al : Bool) (q : Int) (m : Mb) (pa fu fi : Fm) (X Y : Int) (hc : Cok s m) (H : Heap) :
    CallOk Tryz.prog 4 [.agg (csc c s al q m pa fu fi X Y)] H (.bool true) H := by
  have lc := fun L => light_ok pa fu fi L
  change ∀ L, CallOk _ _ [.agg (rfs pa fu fi)] L _ L at lc
  generalize lightB pa fu fi = b1 at lc
  have bu := fun L => built_ok c s al q m pa fu fi X Y hc L
  have re := fun L => recon_ref c s al q m pa fu fi X Y L hc.l hc.a hc.b
  change ∀ L, CallOk _ _ [_, _, _, _, _, .agg (rfs pa fu fi), _, _] L _ L at re
  have e1 := csc_c (c := c) (s := s) (al := al) (q := q) (m := m) (pa := pa) (fu := fu) (fi := fi) (X := X) (Y := Y)
  have e2 := csc_s (c := c) (al := al) (q := q) (pa := pa) (fu := fu) (fi := fi) (X := X) (Y := Y) hc
  have e3 := csc_al (c := c) (al := al) (q := q) (pa := pa) (fu := fu) (fi := fi) (X := X) (Y := Y) hc
  have e4 := csc_q (c := c) (al := al) (q := q) (pa := pa) (fu := fu) (fi := fi) (X := X) (Y := Y) hc
  have e5 := csc_m (c := c) (al := al) (q := q) (pa := pa) (fu := fu) (fi := fi) (X := X) (Y := Y) hc
  have e6 := csc_r (c := c) (al := al) (q := q) (pa := pa) (fu := fu) (fi := fi) (X := X) (Y := Y) hc
  have e7 := csc_X (c := c) (al := al) (q := q) (pa := pa) (fu := fu) (fi := fi) (X := X) (Y := Y) hc
  have e8 := csc_Y (c := c) (al := al) (q := q) (pa := pa) (fu := fu) (fi := fi) (X := X) (Y := Y) hc
  have e9 := csc_len (c := c) (al := al) (q := q) (pa := pa) (fu := fu) (fi := fi) (X := X) (Y := Y) hc
  have e0 := csc_cell (c := c) (s := s) (al := al) (q := q) (m := m) (pa := pa) (fu := fu) (fi := fi) (X := X) (Y := Y)
  generalize csc c s al q m pa fu fi X Y = C at *
  generalize recS c s.ia s.ie al q m pa fu fi X Y = T at bu re
  obtain ⟨g, e⟩ := T
  simp only at bu re
  have k0 : List.take 566 C = C := List.take_of_length_le (by omega)
  have eq := fun L => eqF_ref g L
  have g5 : (fmc g).all PV.cell = true := rfl
  have g7 : (fmc g).length = 5 := rfl
  have g8 : List.take 5 (fmc g) = fmc g := rfl
  have z9 : List.drop 5 [PV.int .i64 0, PV.int .i64 0, PV.slice [] 0 true, PV.slice [] 0 true, PV.slice [] 0 true] = [] := rfl
  refine CallOk.body (F0 := [(0, .agg C)]) Tryz.func4 rfl Tryz.ntmps4 Tryz.results4 rfl (by kernel_rfl) rfl ?_
  (repeat refine PW.seq ?_); refine PW.rg rfl fun K hK => ?_; simp (maxSteps := 3000000) (disch := omega) only [go_sem, ↓reduceIte, reduceCtorEq, pappend, plen, e0]; refine hK _ _ ?_; clear hK K
  (repeat refine PW.seq ?_); refine PW.rg rfl fun K hK => ?_; simp (maxSteps := 3000000) (disch := omega) only [go_sem, ↓reduceIte, reduceCtorEq, pappend, plen, e6, e9]; refine VCx.call (lc _) rfl ?_; simp (maxSteps := 3000000) (disch := omega) only [go_sem, ↓reduceIte, reduceCtorEq, pappend, plen, e6, e9]; refine hK _ _ ?_; clear hK K
  (repeat refine PW.seq ?_); refine PW.cond (t := _) rfl (fun h => ?_) (fun h => ?_)
  · (repeat refine PW.seq ?_); refine PW.rg rfl fun K hK => ?_; simp (maxSteps := 3000000) (disch := omega) only [go_sem, ↓reduceIte, reduceCtorEq, pappend, plen]; refine hK _ _ ?_; clear hK K
    (refine PW.ret ⟨_, rfl, ?_⟩; first | refine .inl ⟨?_, rfl⟩ | refine Fin.base (.id' ?_ (.bool _)) | refine Fin.base (.id' ?_ (.int _ _)))
    rfl
  refine PW.skip ?_
  (repeat refine PW.seq ?_); refine PW.rg rfl fun K hK => ?_; simp (maxSteps := 3000000) (disch := omega) only [go_sem, ↓reduceIte, reduceCtorEq, pappend, plen, e9, k0, g5, g7, z9]; refine VCx.call (bu _) rfl ?_; simp (maxSteps := 3000000) (disch := omega) only [go_sem, ↓reduceIte, reduceCtorEq, pappend, plen, e9, k0, g5, g7, z9]; refine hK _ _ ?_; clear hK K
  (repeat refine PW.seq ?_); refine PW.rg rfl fun K hK => ?_; simp (maxSteps := 3000000) (disch := omega) only [go_sem, ↓reduceIte, reduceCtorEq, pappend, plen, e1, e2, e3, e4, e5, e6, e7, e8, e9, g5, g7, z9]; refine VCx.call (re _) rfl ?_; simp (maxSteps := 3000000) (disch := omega) only [go_sem, ↓reduceIte, reduceCtorEq, pappend, plen, e1, e2, e3, e4, e5, e6, e7, e8, e9, g5, g7, z9]; refine hK _ _ ?_; clear hK K
  (repeat refine PW.seq ?_); refine PW.rg rfl fun K hK => ?_; simp (maxSteps := 3000000) (disch := omega) only [go_sem, ↓reduceIte, reduceCtorEq, pappend, plen, g7, g8]
  (repeat' (first | ((first | refine VO_cond ?_ ?_ | refine VOd_cond ?_ ?_ | refine VOg_cond ?_ ?_ | refine VOh_cond ?_ ?_ | refine VOi_cond ?_ ?_ | refine And.intro ?_ ?_) <;> intro h <;> (try simp only [Bool.not_eq_true', Bool.not_eq_false', decide_eq_true_eq, decide_eq_false_iff_not] at h) <;> simp (maxSteps := 3000000) (disch := omega) only [go_sem, ↓reduceIte, reduceCtorEq, pappend, plen, g7, g8, h]) | ((first | refine VCx.call (awake10 _) rfl ?_ | refine VCx.call (eq _) rfl ?_ | refine VCy.call (awake10 _) rfl ?_ | refine VCy.call (eq _) rfl ?_ | refine VCz.call (fun _ => awake10 _) rfl ?_ | refine VCz.call (fun _ => eq _) rfl ?_ | refine VCk.call (fun _ _ => awake10 _) rfl ?_ | refine VCk.call (fun _ _ => eq _) rfl ?_ | refine VCj.now (awake10 _) rfl ?_ | refine VCj.now (eq _) rfl ?_); simp (maxSteps := 3000000) (disch := omega) only [go_sem, ↓reduceIte, reduceCtorEq, pappend, plen, g7, g8])))
  all_goals (refine hK _ _ ?_; clear hK; (refine PW.ret ⟨_, rfl, ?_⟩; first | refine .inl ⟨?_, rfl⟩ | refine Fin.base (.id' ?_ (.bool _)) | refine Fin.base (.id' ?_ (.int _ _))); (simp_all [slot, Nat.beq] <;> first | rfl | omega | (rw [Bool.eq_iff_iff]; simp; done) | (rw [Bool.eq_iff_iff]; simp; omega)))

end Go.Proofs.YtahomnplappbpaaGreatDoor.Sc

namespace Go.Proofs.YtahomnplappbpaaGreatDoor.Pm
set_option linter.all false
set_option linter.unusedVariables false
set_option linter.unusedSimpArgs false
open Go.ChangeShapes Go.WideShapes Go.ChangeAt Go.RowKit

variable {P : Program} {W : World}

theorem tab_of_trod {t e : TypeId} {n fuel : Nat} {k : IntKind} {cs : List Value} {z : List Int} {p : List MemPlace} (ht : P.underlying t = some (.array n e)) (he : P.underlying e = some (.int k)) (hc : P.cellsOf e = 1)
    (h : DataW.trod (fun _ => ()) P W 0 (fun _ => true) false fuel t cs = some (.agg (z.map fun x => .lit (.int k x)), p)) : ∀ (j : Nat) (x : Int), z[j]? = some x → cs[j]? = some (.int k x) := by
  obtain ⟨xs, m, rfl, hx, hlen, hn, hel⟩ := DataW.trod_array ht h
  intro j x hj
  simp only [Prod.mk.injEq, DataW.agg.injEq] at hx
  have hx1 := congrArg (fun l => l[j]?) hx.1
  simp only [List.getElem?_map, hj, Option.map_some] at hx1
  cases hy : xs[j]? with
  | none => rw [hy] at hx1; cases hx1
  | some y =>
    rw [hy] at hx1
    simp only [Option.map_some, Option.some.injEq] at hx1
    have hjn : j < n := by rw [← hn]; exact (List.getElem?_eq_some_iff.1 hy).1
    have hd := hel j hjn
    rw [hy, hc, Nat.mul_one] at hd
    obtain ⟨r, e1, e2, _⟩ := DataW.trod_int he hd
    rw [e2] at hx1
    simp only [DataW.lit.injEq, Lit.int.injEq, true_and] at hx1
    subst hx1
    have := congrArg (fun l => l[0]?) e1
    simpa using this
theorem laidVars_mem : ∀ {l : List (String × DataW Unit)} {ps : List MemPlace}, DataW.LaidVars P W l ps → ∀ x ∈ l, ∃ g t cs fuel p, P.globalNamed x.1 = some g ∧ (P.globals[g]?).map (·.type) = some t ∧ W.var? P x.1 = some cs ∧ DataW.trod (fun _ => ()) P W 0 (fun _ => true) false fuel t cs.toList = some (x.2, p)
  | [], _, _, x, hx => by cases hx
  | (n, d) :: r, ps, h, x, hx => by
    obtain ⟨g, t, cs, fuel, p, q, h1, h2, h3, h4, h5, _⟩ := h
    rcases List.mem_cons.1 hx with rfl | hx
    · exact ⟨g, t, cs, fuel, p, h1, h2, h3, h4⟩
    · exact laidVars_mem h5 x hx
theorem glob_row {l : List (String × DataW Unit)} {nm : String} {g n : Nat} {t e : TypeId} {k : IntKind} {z : List Int} (h : laidMet P l W) (hm : (nm, DataW.agg (z.map fun x => .lit (.int k x))) ∈ l) (hg : P.globalNamed nm = some g) (ht : (P.globals[g]?).map (·.type) = some t)
    (hu : P.underlying t = some (.array n e)) (he : P.underlying e = some (.int k)) (hc : P.cellsOf e = 1) : ∀ (j : Nat) (x : Int), z[j]? = some x → (Ctx.start W).M g j = some (.int k x) := fun j x hj => by
  obtain ⟨ps, hv, _⟩ := h
  obtain ⟨g', t', cs, fuel, p, h1, h2, h3, h4⟩ := laidVars_mem hv _ hm
  obtain rfl := Option.some.inj (hg.symm.trans h1)
  obtain rfl := Option.some.inj (ht.symm.trans h2)
  have h5 := tab_of_trod hu he hc h4 j x hj
  show W.cell? ⟨g, j, none⟩ = _
  rw [World.var?_cell hg h3 j, ← h5]
  simp
theorem glob_of {l : List (String × DataW Unit)} (h : laidMetH Tryz.prog l W) (hl : (l.all fun x => x.2.handleName?.isNone) = true)
    (h1 : ("cutroom/quant.alternateScan", Rows.laid_cutroom_quant_alternateScan) ∈ l)
    : Glob (Ctx.start W).M := by
  rw [MakeChecks.laidMetH_plain _ _ _ hl] at h
  intro g l hg
  unfold gtab at hg
  split at hg
  · rename_i e
    subst e
    obtain rfl := Option.some.inj hg
    intro j x hj
    unfold gAlt at hj
    rw [List.getElem?_map, Option.map_eq_some_iff] at hj
    obtain ⟨y, hy, rfl⟩ := hj
    exact glob_row (t := 47) h (k := .i64) h1 (by kernel_rfl) (by kernel_rfl) Tryz.underlying47 Tryz.underlying3 (by kernel_rfl) j y hy
  cases hg

end Go.Proofs.YtahomnplappbpaaGreatDoor.Pm
