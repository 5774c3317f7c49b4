/-
  Parts of the proof, put together in one text. No condition.
-/
import Derived.Test.YtahomnplappbpaaGreatDoorX38
import Derived.Test.YtahomnplappbpaaGreatDoorX09
import Derived.Test.YtahomnplappbpaaGreatDoorRows
import Derived.LaidMore
import Derived.OpenShut
import Derived.MakeChecks
import Derived.LaidHandle
import Derived.FnData
import Derived.Test.YtahomnplappbpaaGreatDoorX20
namespace Go.Proofs.YtahomnplappbpaaGreatDoor.Sc
set_option linter.all false
set_option linter.unusedVariables false
set_option linter.unusedSimpArgs false
open Pm Ty Go.RowKit

theorem eqF_ref (f : Fm) (H : Heap) : CallOk Tryz.prog 17 [.agg (fmc f), .agg (fmc f)] H (.bool true) H := equal_ref f H
theorem rec_alone (c : Cx) (s : Sq) (al : Bool) (q : Int) (m : Mb) (hk : m.k = 1) (pa fu fi pa' fu' fi' : Fm) (X Y x y : Int) : recS c s.ia s.ie al q m pa fu fi X Y = recS c s.ia s.ie al q m pa' fu' fi' x y := by
  unfold recS
  rw [if_pos hk, if_pos hk]

set_option maxHeartbeats 3200000 in
set_option maxRecDepth 100000 in
theorem law_alone (c : Cx) (s : Sq) (al : Bool) (q : Int) (m : Mb) (pa fu fi pa' fu' fi' : Fm) (X Y x y : Int) (hc : Cok s m) (H : Heap) :
    CallOk Tryz.prog 5 [.agg (csc c s al q m pa fu fi X Y), .agg (rfs pa' fu' fi'), .int .i64 x, .int .i64 y] H (.bool true) H := by
  have lc := fun L => light_ok pa fu fi L
  have lc' := fun L => light_ok pa' fu' fi' L
  change ∀ L, CallOk _ _ [.agg (rfs pa fu fi)] L _ L at lc
  change ∀ L, CallOk _ _ [.agg (rfs pa' fu' fi')] L _ L at lc'
  generalize lightB pa fu fi = b1 at lc
  generalize lightB pa' fu' fi' = b2 at lc'
  have bu := fun L => built_ok c s al q m pa fu fi X Y hc L
  have bu' := fun L => built_ok c s al q m pa' fu' fi' x y hc L
  have ra := fun hk => rec_alone c s al q m hk pa fu fi pa' fu' fi' X Y x y
  have e1 := csc_r (c := c) (s := s) (al := al) (q := q) (m := m) (pa := pa) (fu := fu) (fi := fi) (X := X) (Y := Y) hc
  have e2 := csc_k (c := c) (s := s) (al := al) (q := q) (m := m) (pa := pa) (fu := fu) (fi := fi) (X := X) (Y := Y) hc
  have e3 := csc_len (c := c) (s := s) (al := al) (q := q) (m := m) (pa := pa) (fu := fu) (fi := fi) (X := X) (Y := Y) hc
  have e4 := csc_cell (c := c) (s := s) (al := al) (q := q) (m := m) (pa := pa) (fu := fu) (fi := fi) (X := X) (Y := Y)
  have e5 := csc_c (c := c) (s := s) (al := al) (q := q) (m := m) (pa := pa) (fu := fu) (fi := fi) (X := X) (Y := Y)
  have e6 := csc_ct (c := c) (s := s) (al := al) (q := q) (m := m) (pa := pa) (fu := fu) (fi := fi) (X := X) (Y := Y)
  have e7 := csc_cs (c := c) (s := s) (al := al) (q := q) (m := m) (pa := pa) (fu := fu) (fi := fi) (X := X) (Y := Y)
  have e8 := csc_cn (c := c) (s := s) (al := al) (q := q) (m := m) (pa := pa) (fu := fu) (fi := fi) (X := X) (Y := Y)
  have e9 := csc_pa (c := c) (s := s) (al := al) (q := q) (m := m) (pa := pa) (fu := fu) (fi := fi) (X := X) (Y := Y) hc
  have e10 := csc_fu (c := c) (s := s) (al := al) (q := q) (m := m) (pa := pa) (fu := fu) (fi := fi) (X := X) (Y := Y) hc
  have e11 := csc_X (c := c) (s := s) (al := al) (q := q) (m := m) (pa := pa) (fu := fu) (fi := fi) (X := X) (Y := Y) hc
  have e12 := csc_Y (c := c) (s := s) (al := al) (q := q) (m := m) (pa := pa) (fu := fu) (fi := fi) (X := X) (Y := Y) hc

  have s1 := csc_sr (c := c) (s := s) (al := al) (q := q) (m := m) (pa := pa) (fu := fu) (fi := fi) (X := X) (Y := Y) hc pa' fu' fi'
  have s2 := csc_sX (c := c) (s := s) (al := al) (q := q) (m := m) (pa := pa') (fu := fu') (fi := fi') (X := X) (Y := Y) hc x
  have s3 := csc_sY (c := c) (s := s) (al := al) (q := q) (m := m) (pa := pa') (fu := fu') (fi := fi') (X := x) (Y := Y) hc y
  have n1 := csc_len (c := c) (s := s) (al := al) (q := q) (m := m) (pa := pa') (fu := fu') (fi := fi') (X := X) (Y := Y) hc
  have n2 := csc_len (c := c) (s := s) (al := al) (q := q) (m := m) (pa := pa') (fu := fu') (fi := fi') (X := x) (Y := Y) hc
  have n3 := csc_len (c := c) (s := s) (al := al) (q := q) (m := m) (pa := pa') (fu := fu') (fi := fi') (X := x) (Y := y) hc
  have rl : (rfs pa' fu' fi').length = 15 := rfl
  have rc : (rfs pa' fu' fi').all PV.cell = true := rfl
  have rt : List.take 15 (rfs pa' fu' fi') = rfs pa' fu' fi' := rfl
  have rl0 : (rfs pa fu fi).length = 15 := rfl
  generalize rfs pa' fu' fi' = R' at *
  generalize rfs pa fu fi = R at *
  generalize csc c s al q m pa fu fi X Y = C0 at *
  generalize csc c s al q m pa' fu' fi' X Y = C1 at *
  generalize csc c s al q m pa' fu' fi' x Y = C2 at *
  generalize csc c s al q m pa' fu' fi' x y = C3 at *
  have k0 : List.take 566 C0 = C0 := List.take_of_length_le (by omega)
  have k3 : List.take 566 C3 = C3 := List.take_of_length_le (by omega)
  refine CallOk.body (F0 := [(0, .agg C0), (1, .agg R'), (2, .int .i64 x), (3, .int .i64 y)]) Tryz.func5 rfl Tryz.ntmps5 Tryz.results5 rfl (by kernel_rfl) rfl ?_
  (repeat refine PW.seq ?_); refine PW.rg rfl fun K hK => ?_; simp (maxSteps := 3000000) (disch := omega) only [go_sem, ↓reduceIte, reduceCtorEq, pappend, plen, e4, rc]; refine hK _ _ ?_; clear hK K
  (repeat refine PW.seq ?_)
  refine PW.rgv (P := Tryz.prog) [2, 3, 4, 5] 27 (.bool (!b1 || (!b2 || decide (m.k ≠ 1)))) ?_ ?_ ?_
  · rfl
  · clear ra bu bu'
    simp (maxSteps := 3000000) (disch := omega) only [go_sem, ↓reduceIte, reduceCtorEq, pappend, plen, e1, e2, e3, rl, rt]; (repeat' (first | ((first | refine VO_cond ?_ ?_ | refine VOd_cond ?_ ?_ | refine VOg_cond ?_ ?_ | refine VOh_cond ?_ ?_ | refine VOi_cond ?_ ?_ | refine And.intro ?_ ?_) <;> intro h <;> (try simp only [Bool.not_eq_true', Bool.not_eq_false', decide_eq_true_eq, decide_eq_false_iff_not] at h) <;> simp (maxSteps := 3000000) (disch := omega) only [go_sem, ↓reduceIte, reduceCtorEq, pappend, plen, e1, e2, e3, rl, rt, h]) | ((first | refine VCx.call (lc _) rfl ?_ | refine VCx.call (lc' _) rfl ?_ | refine VCy.call (lc _) rfl ?_ | refine VCy.call (lc' _) rfl ?_ | refine VCz.call (fun _ => lc _) rfl ?_ | refine VCz.call (fun _ => lc' _) rfl ?_ | refine VCk.call (fun _ _ => lc _) rfl ?_ | refine VCk.call (fun _ _ => lc' _) rfl ?_ | refine VCj.now (lc _) rfl ?_ | refine VCj.now (lc' _) rfl ?_); simp (maxSteps := 3000000) (disch := omega) only [go_sem, ↓reduceIte, reduceCtorEq, pappend, plen, e1, e2, e3, rl, rt])))
    all_goals (clear lc lc' e1 e3 e4 e5 e6 e7 e8 e9 e10 e11 e12 s1 s2 s3 n1 n2 n3 rl rc rt rl0 k0 k3; (simp_all [slot, Nat.beq] <;> first | rfl | omega | (rw [Bool.eq_iff_iff]; simp; done) | (rw [Bool.eq_iff_iff]; simp; omega)))
  (repeat refine PW.seq ?_); refine PW.cond (t := _) rfl (fun h => ?_) (fun h => ?_)
  · (repeat refine PW.seq ?_); refine PW.rg rfl fun K hK => ?_; simp (maxSteps := 3000000) (disch := omega) only [go_sem, ↓reduceIte, reduceCtorEq, pappend, plen]; refine VCx.call (awake10 _) rfl ?_; simp (maxSteps := 3000000) (disch := omega) only [go_sem, ↓reduceIte, reduceCtorEq, pappend, plen]; refine hK _ _ ?_; clear hK K
    (refine PW.ret ⟨_, rfl, ?_⟩; first | refine .inl ⟨?_, rfl⟩ | refine Fin.base (.id' ?_ (.bool _)) | refine Fin.base (.id' ?_ (.int _ _)))
    rfl
  have hb : (!b1 || (!b2 || decide (m.k ≠ 1))) = false := h
  have hk : m.k = 1 := by
    cases b1 <;> cases b2 <;> simp at hb
    exact hb
  rw [← ra hk] at bu'
  generalize recS c s.ia s.ie al q m pa fu fi X Y = T at bu bu'
  obtain ⟨g, e⟩ := T
  simp only at bu bu'
  have eq := fun L => eqF_ref g L
  have g5 : (fmc g).all PV.cell = true := rfl
  have g7 : (fmc g).length = 5 := rfl
  have g8 : List.take 5 (fmc g) = fmc g := rfl
  have z9 : List.drop 5 [PV.int .i64 0, PV.int .i64 0, PV.slice [] 0 true, PV.slice [] 0 true, PV.slice [] 0 true] = [] := rfl
  refine PW.skip ?_
  (repeat refine PW.seq ?_); refine PW.rg rfl fun K hK => ?_; simp (maxSteps := 3000000) (disch := omega) only [go_sem, ↓reduceIte, reduceCtorEq, pappend, plen, e3, k0, g5, g7, z9]; refine VCx.call (bu _) rfl ?_; simp (maxSteps := 3000000) (disch := omega) only [go_sem, ↓reduceIte, reduceCtorEq, pappend, plen, e3, k0, g5, g7, z9]; refine hK _ _ ?_; clear hK K
  (repeat refine PW.seq ?_); refine PW.rg rfl fun K hK => ?_; simp (maxSteps := 3000000) (disch := omega) only [go_sem, ↓reduceIte, reduceCtorEq, pappend, plen, rl, rc, rt, e3, s1, n1, s2, n2, s3, n3, Nat.reduceAdd]; refine hK _ _ ?_; clear hK K
  (repeat refine PW.seq ?_); refine PW.rg rfl fun K hK => ?_; simp (maxSteps := 3000000) (disch := omega) only [go_sem, ↓reduceIte, reduceCtorEq, pappend, plen, n3, k3, g5, g7, z9]; refine VCx.call (bu' _) rfl ?_; simp (maxSteps := 3000000) (disch := omega) only [go_sem, ↓reduceIte, reduceCtorEq, pappend, plen, n3, k3, g5, g7, z9]; refine hK _ _ ?_; clear hK K
  (repeat refine PW.seq ?_); refine PW.rg rfl fun K hK => ?_; simp (maxSteps := 3000000) (disch := omega) only [go_sem, ↓reduceIte, reduceCtorEq, pappend, plen, g7, g8]
  (repeat' (first | ((first | refine VO_cond ?_ ?_ | refine VOd_cond ?_ ?_ | refine VOg_cond ?_ ?_ | refine VOh_cond ?_ ?_ | refine VOi_cond ?_ ?_ | refine And.intro ?_ ?_) <;> intro h <;> (try simp only [Bool.not_eq_true', Bool.not_eq_false', decide_eq_true_eq, decide_eq_false_iff_not] at h) <;> simp (maxSteps := 3000000) (disch := omega) only [go_sem, ↓reduceIte, reduceCtorEq, pappend, plen, g7, g8, h]) | ((first | refine VCx.call (awake10 _) rfl ?_ | refine VCx.call (eq _) rfl ?_ | refine VCy.call (awake10 _) rfl ?_ | refine VCy.call (eq _) rfl ?_ | refine VCz.call (fun _ => awake10 _) rfl ?_ | refine VCz.call (fun _ => eq _) rfl ?_ | refine VCk.call (fun _ _ => awake10 _) rfl ?_ | refine VCk.call (fun _ _ => eq _) rfl ?_ | refine VCj.now (awake10 _) rfl ?_ | refine VCj.now (eq _) rfl ?_); simp (maxSteps := 3000000) (disch := omega) only [go_sem, ↓reduceIte, reduceCtorEq, pappend, plen, g7, g8])))
  all_goals (refine hK _ _ ?_; clear hK; (refine PW.ret ⟨_, rfl, ?_⟩; first | refine .inl ⟨?_, rfl⟩ | refine Fin.base (.id' ?_ (.bool _)) | refine Fin.base (.id' ?_ (.int _ _))); (simp_all [slot, Nat.beq] <;> first | rfl | omega | (rw [Bool.eq_iff_iff]; simp; done) | (rw [Bool.eq_iff_iff]; simp; omega)))

end Go.Proofs.YtahomnplappbpaaGreatDoor.Sc

namespace Go.Proofs.YtahomnplappbpaaGreatDoor.Pm
set_option linter.all false
set_option linter.unusedVariables false
set_option linter.unusedSimpArgs false
open Go.ChangeShapes Go.WideShapes Go.ChangeAt Go.RowKit

variable {P : Program} {W : World}

theorem tab_of_trod {t e : TypeId} {n fuel : Nat} {k : IntKind} {cs : List Value} {z : List Int} {p : List MemPlace} (ht : P.underlying t = some (.array n e)) (he : P.underlying e = some (.int k)) (hc : P.cellsOf e = 1)
    (h : DataW.trod (fun _ => ()) P W 0 (fun _ => true) false fuel t cs = some (.agg (z.map fun x => .lit (.int k x)), p)) : ∀ (j : Nat) (x : Int), z[j]? = some x → cs[j]? = some (.int k x) := by
  obtain ⟨xs, m, rfl, hx, hlen, hn, hel⟩ := DataW.trod_array ht h
  intro j x hj
  simp only [Prod.mk.injEq, DataW.agg.injEq] at hx
  have hx1 := congrArg (fun l => l[j]?) hx.1
  simp only [List.getElem?_map, hj, Option.map_some] at hx1
  cases hy : xs[j]? with
  | none => rw [hy] at hx1; cases hx1
  | some y =>
    rw [hy] at hx1
    simp only [Option.map_some, Option.some.injEq] at hx1
    have hjn : j < n := by rw [← hn]; exact (List.getElem?_eq_some_iff.1 hy).1
    have hd := hel j hjn
    rw [hy, hc, Nat.mul_one] at hd
    obtain ⟨r, e1, e2, _⟩ := DataW.trod_int he hd
    rw [e2] at hx1
    simp only [DataW.lit.injEq, Lit.int.injEq, true_and] at hx1
    subst hx1
    have := congrArg (fun l => l[0]?) e1
    simpa using this
theorem laidVars_mem : ∀ {l : List (String × DataW Unit)} {ps : List MemPlace}, DataW.LaidVars P W l ps → ∀ x ∈ l, ∃ g t cs fuel p, P.globalNamed x.1 = some g ∧ (P.globals[g]?).map (·.type) = some t ∧ W.var? P x.1 = some cs ∧ DataW.trod (fun _ => ()) P W 0 (fun _ => true) false fuel t cs.toList = some (x.2, p)
  | [], _, _, x, hx => by cases hx
  | (n, d) :: r, ps, h, x, hx => by
    obtain ⟨g, t, cs, fuel, p, q, h1, h2, h3, h4, h5, _⟩ := h
    rcases List.mem_cons.1 hx with rfl | hx
    · exact ⟨g, t, cs, fuel, p, h1, h2, h3, h4⟩
    · exact laidVars_mem h5 x hx
theorem glob_row {l : List (String × DataW Unit)} {nm : String} {g n : Nat} {t e : TypeId} {k : IntKind} {z : List Int} (h : laidMet P l W) (hm : (nm, DataW.agg (z.map fun x => .lit (.int k x))) ∈ l) (hg : P.globalNamed nm = some g) (ht : (P.globals[g]?).map (·.type) = some t)
    (hu : P.underlying t = some (.array n e)) (he : P.underlying e = some (.int k)) (hc : P.cellsOf e = 1) : ∀ (j : Nat) (x : Int), z[j]? = some x → (Ctx.start W).M g j = some (.int k x) := fun j x hj => by
  obtain ⟨ps, hv, _⟩ := h
  obtain ⟨g', t', cs, fuel, p, h1, h2, h3, h4⟩ := laidVars_mem hv _ hm
  obtain rfl := Option.some.inj (hg.symm.trans h1)
  obtain rfl := Option.some.inj (ht.symm.trans h2)
  have h5 := tab_of_trod hu he hc h4 j x hj
  show W.cell? ⟨g, j, none⟩ = _
  rw [World.var?_cell hg h3 j, ← h5]
  simp
theorem glob_of {l : List (String × DataW Unit)} (h : laidMetH Tryz.prog l W) (hl : (l.all fun x => x.2.handleName?.isNone) = true)
    (h1 : ("cutroom/quant.alternateScan", Rows.laid_cutroom_quant_alternateScan) ∈ l)
    : Glob (Ctx.start W).M := by
  rw [MakeChecks.laidMetH_plain _ _ _ hl] at h
  intro g l hg
  unfold gtab at hg
  split at hg
  · rename_i e
    subst e
    obtain rfl := Option.some.inj hg
    intro j x hj
    unfold gAlt at hj
    rw [List.getElem?_map, Option.map_eq_some_iff] at hj
    obtain ⟨y, hy, rfl⟩ := hj
    exact glob_row (t := 47) h (k := .i64) h1 (by kernel_rfl) (by kernel_rfl) Tryz.underlying47 Tryz.underlying3 (by kernel_rfl) j y hy
  cases hg

end Go.Proofs.YtahomnplappbpaaGreatDoor.Pm

namespace Go.Proofs.YtahomnplappbpaaGreatDoor.Sc
set_option linter.all false
set_option linter.unusedVariables false
set_option linter.unusedSimpArgs false
open Pm Ty Go.RowKit

theorem rec_vcx {c : Cx} {si sq : List UInt8} {al : Bool} {q : Int} {m : Mb} {pa fu fi : Fm} {mx my : Int} (h : (recS c si sq al q m pa fu fi mx my).2 = 0) : vcx c = true := by
  unfold recS at h
  split at h
  · rename_i hok
    rw [Bool.and_eq_true] at hok
    have := hok.1
    unfold fmS at this
    rw [Bool.and_eq_true] at this
    exact this.1
  · simp at h

set_option maxHeartbeats 3200000 in
set_option maxRecDepth 100000 in
theorem law_skips (c : Cx) (s : Sq) (al : Bool) (q : Int) (m : Mb) (pa fu fi : Fm) (X Y : Int) (hc : Cok s m) (H : Heap) :
    CallOk Tryz.prog 6 [.agg (csc c s al q m pa fu fi X Y)] H (.bool true) H := by
  have hd : Cok s zMb := ⟨hc.a, hc.b, zl384_lenA⟩
  have lc := fun L => light_ok pa fu fi L
  change ∀ L, CallOk _ _ [.agg (rfs pa fu fi)] L _ L at lc
  generalize lightB pa fu fi = b1 at lc
  have bu := fun L => built_ok c s al q zMb pa fu fi X Y hd L
  have n3 := csc_len (c := c) (s := s) (al := al) (q := q) (m := m) (pa := pa) (fu := fu) (fi := fi) (X := X) (Y := Y) hc
  have n4 := csc_cell (c := c) (s := s) (al := al) (q := q) (m := m) (pa := pa) (fu := fu) (fi := fi) (X := X) (Y := Y)
  have sm := csc_sm (c := c) (s := s) (al := al) (q := q) (m := m) (pa := pa) (fu := fu) (fi := fi) (X := X) (Y := Y) hc zMb
  have e1 := csc_r (c := c) (s := s) (al := al) (q := q) (m := zMb) (pa := pa) (fu := fu) (fi := fi) (X := X) (Y := Y) hd
  have e2 := csc_k (c := c) (s := s) (al := al) (q := q) (m := zMb) (pa := pa) (fu := fu) (fi := fi) (X := X) (Y := Y) hd
  have e3 := csc_len (c := c) (s := s) (al := al) (q := q) (m := zMb) (pa := pa) (fu := fu) (fi := fi) (X := X) (Y := Y) hd
  have e4 := csc_cell (c := c) (s := s) (al := al) (q := q) (m := zMb) (pa := pa) (fu := fu) (fi := fi) (X := X) (Y := Y)
  have e5 := csc_c (c := c) (s := s) (al := al) (q := q) (m := zMb) (pa := pa) (fu := fu) (fi := fi) (X := X) (Y := Y)
  have e6 := csc_ct (c := c) (s := s) (al := al) (q := q) (m := zMb) (pa := pa) (fu := fu) (fi := fi) (X := X) (Y := Y)
  have e7 := csc_cs (c := c) (s := s) (al := al) (q := q) (m := zMb) (pa := pa) (fu := fu) (fi := fi) (X := X) (Y := Y)
  have e8 := csc_cn (c := c) (s := s) (al := al) (q := q) (m := zMb) (pa := pa) (fu := fu) (fi := fi) (X := X) (Y := Y)
  have e9 := csc_pa (c := c) (s := s) (al := al) (q := q) (m := zMb) (pa := pa) (fu := fu) (fi := fi) (X := X) (Y := Y) hd
  have e10 := csc_fu (c := c) (s := s) (al := al) (q := q) (m := zMb) (pa := pa) (fu := fu) (fi := fi) (X := X) (Y := Y) hd
  have e11 := csc_X (c := c) (s := s) (al := al) (q := q) (m := zMb) (pa := pa) (fu := fu) (fi := fi) (X := X) (Y := Y) hd
  have e12 := csc_Y (c := c) (s := s) (al := al) (q := q) (m := zMb) (pa := pa) (fu := fu) (fi := fi) (X := X) (Y := Y) hd
  have zl := zmv_lenA
  have zc := zmv_cellA
  change List.take 141 _ ++ (zmv ++ _) = _ at sm
  have hsk : ∀ h1 h2 h3, _ := fun (h1 : c.s = 3) (h2 : c.t ≠ 1) (h3 : (recS c s.ia s.ie al q zMb pa fu fi X Y).2 = 0) => rec_skip (c := c) h1 h2 (si := s.ia) (sq := s.ie) (al := al) (q := q) (pa := pa) (fu := fu) (fi := fi) (mx := X) (my := Y) h3
  have hbad : (recS c s.ia s.ie al q zMb pa fu fi X Y).2 ≠ 0 → (recS c s.ia s.ie al q zMb pa fu fi X Y).1 = f0 := rec_bad
  have hvc : (recS c s.ia s.ie al q zMb pa fu fi X Y).2 = 0 → vcx c = true := rec_vcx
  change ∀ (h1 : c.s = 3) (h2 : c.t ≠ 1) (h3 : (recS c s.ia s.ie al q zMb pa fu fi X Y).2 = 0), hasM pa X Y = true ∧ if c.t = 3 then hasM fu X Y = true ∧ (recS c s.ia s.ie al q zMb pa fu fi X Y).1 = mnF (mcF pa X Y) (mcF fu X Y) else (recS c s.ia s.ie al q zMb pa fu fi X Y).1 = mcF pa X Y at hsk
  generalize recS c s.ia s.ie al q zMb pa fu fi X Y = T at bu hsk hbad hvc
  obtain ⟨g, e⟩ := T
  simp only at bu hsk hbad hvc
  have g5 : (fmc g).all PV.cell = true := rfl
  have g7 : (fmc g).length = 5 := rfl
  have g8 : List.take 5 (fmc g) = fmc g := rfl
  have z9 : List.drop 5 [PV.int .i64 0, PV.int .i64 0, PV.slice [] 0 true, PV.slice [] 0 true, PV.slice [] 0 true] = [] := rfl
  have rl0 : (rfs pa fu fi).length = 15 := rfl
  generalize rfs pa fu fi = R at *
  generalize csc c s al q m pa fu fi X Y = C0 at *
  generalize csc c s al q zMb pa fu fi X Y = C1 at *
  have k1 : List.take 566 C1 = C1 := List.take_of_length_le (by omega)
  refine CallOk.body (F0 := [(0, .agg C0)]) Tryz.func6 rfl Tryz.ntmps6 Tryz.results6 rfl (by kernel_rfl) rfl ?_
  (repeat refine PW.seq ?_); refine PW.rg rfl fun K hK => ?_; simp (maxSteps := 3000000) (disch := omega) only [go_sem, ↓reduceIte, reduceCtorEq, pappend, plen, n4]; refine hK _ _ ?_; clear hK K
  (repeat refine PW.seq ?_); refine PW.rg rfl fun K hK => ?_; simp (maxSteps := 3000000) (disch := omega) only [go_sem, ↓reduceIte, reduceCtorEq, pappend, plen, ↓stpMb, n3, zl, zc, sm, e3, Nat.reduceAdd]; refine hK _ _ ?_; clear hK K
  (repeat refine PW.seq ?_)
  refine PW.rgv (P := Tryz.prog) [1] 27 (.bool (!b1 || (decide (c.s ≠ 3) || decide (c.t = 1)))) ?_ ?_ ?_
  · rfl
  · clear hsk hbad hvc bu
    simp (maxSteps := 3000000) (disch := omega) only [go_sem, ↓reduceIte, reduceCtorEq, pappend, plen, e1, e3, e6, e7]; (repeat' (first | ((first | refine VO_cond ?_ ?_ | refine VOd_cond ?_ ?_ | refine VOg_cond ?_ ?_ | refine VOh_cond ?_ ?_ | refine VOi_cond ?_ ?_ | refine And.intro ?_ ?_) <;> intro h <;> (try simp only [Bool.not_eq_true', Bool.not_eq_false', decide_eq_true_eq, decide_eq_false_iff_not] at h) <;> simp (maxSteps := 3000000) (disch := omega) only [go_sem, ↓reduceIte, reduceCtorEq, pappend, plen, e1, e3, e6, e7, h]) | ((first | refine VCx.call (lc _) rfl ?_ | refine VCy.call (lc _) rfl ?_ | refine VCz.call (fun _ => lc _) rfl ?_ | refine VCk.call (fun _ _ => lc _) rfl ?_ | refine VCj.now (lc _) rfl ?_); simp (maxSteps := 3000000) (disch := omega) only [go_sem, ↓reduceIte, reduceCtorEq, pappend, plen, e1, e3, e6, e7])))
    all_goals (clear lc e1 e2 e3 e4 e5 e6 e7 e8 e9 e10 e11 e12 sm n3 n4 zl zc rl0 k1; (simp_all [slot, Nat.beq] <;> first | rfl | omega | (rw [Bool.eq_iff_iff]; simp; done) | (rw [Bool.eq_iff_iff]; simp; omega)))
  (repeat refine PW.seq ?_); refine PW.cond (t := _) rfl (fun h => ?_) (fun h => ?_)
  · (repeat refine PW.seq ?_); refine PW.rg rfl fun K hK => ?_; simp (maxSteps := 3000000) (disch := omega) only [go_sem, ↓reduceIte, reduceCtorEq, pappend, plen]; refine VCx.call (awake10 _) rfl ?_; simp (maxSteps := 3000000) (disch := omega) only [go_sem, ↓reduceIte, reduceCtorEq, pappend, plen]; refine hK _ _ ?_; clear hK K
    (refine PW.ret ⟨_, rfl, ?_⟩; first | refine .inl ⟨?_, rfl⟩ | refine Fin.base (.id' ?_ (.bool _)) | refine Fin.base (.id' ?_ (.int _ _)))
    rfl
  have hb : (!b1 || (decide (c.s ≠ 3) || decide (c.t = 1))) = false := h
  have hs3 : c.s = 3 ∧ c.t ≠ 1 := by
    cases b1 <;> simp at hb
    exact hb
  refine PW.skip ?_
  (repeat refine PW.seq ?_); refine PW.rg rfl fun K hK => ?_; simp (maxSteps := 3000000) (disch := omega) only [go_sem, ↓reduceIte, reduceCtorEq, pappend, plen, e3, k1, g5, g7, z9]; refine VCx.call (bu _) rfl ?_; simp (maxSteps := 3000000) (disch := omega) only [go_sem, ↓reduceIte, reduceCtorEq, pappend, plen, e3, k1, g5, g7, z9]; refine hK _ _ ?_; clear hK K
  (repeat refine PW.seq ?_); refine PW.rg rfl fun K hK => ?_; simp (maxSteps := 3000000) (disch := omega) only [go_sem, ↓reduceIte, reduceCtorEq, pappend, plen]; refine hK _ _ ?_; clear hK K
  (repeat refine PW.seq ?_); refine PW.cond (t := _) rfl (fun h => ?_) (fun h => ?_)
  · have he : e ≠ 0 := by simpa using h
    have hg := hbad he
    subst hg
    have w0 : (fmc f0)[0]? = some (.int .i64 0) := rfl
    (repeat refine PW.seq ?_); refine PW.rg rfl fun K hK => ?_; simp (maxSteps := 3000000) (disch := omega) only [go_sem, ↓reduceIte, reduceCtorEq, pappend, plen, g7, w0]
    (repeat' (first | ((first | refine VO_cond ?_ ?_ | refine VOd_cond ?_ ?_ | refine VOg_cond ?_ ?_ | refine VOh_cond ?_ ?_ | refine VOi_cond ?_ ?_ | refine And.intro ?_ ?_) <;> intro h <;> (try simp only [Bool.not_eq_true', Bool.not_eq_false', decide_eq_true_eq, decide_eq_false_iff_not] at h) <;> simp (maxSteps := 3000000) (disch := omega) only [go_sem, ↓reduceIte, reduceCtorEq, pappend, plen, g7, w0, h]) | ((first | refine VCx.call (awake10 _) rfl ?_ | refine VCy.call (awake10 _) rfl ?_ | refine VCz.call (fun _ => awake10 _) rfl ?_ | refine VCk.call (fun _ _ => awake10 _) rfl ?_ | refine VCj.now (awake10 _) rfl ?_); simp (maxSteps := 3000000) (disch := omega) only [go_sem, ↓reduceIte, reduceCtorEq, pappend, plen, g7, w0])))
    all_goals (refine hK _ _ ?_; clear hK; (refine PW.ret ⟨_, rfl, ?_⟩; first | refine .inl ⟨?_, rfl⟩ | refine Fin.base (.id' ?_ (.bool _)) | refine Fin.base (.id' ?_ (.int _ _))); (simp_all [slot, Nat.beq] <;> first | rfl | omega | (rw [Bool.eq_iff_iff]; simp; done) | (rw [Bool.eq_iff_iff]; simp; omega)))
  have he : e = 0 := by simpa using h
  obtain ⟨hm, hif⟩ := hsk hs3.1 hs3.2 he
  have mc := fun L => mcb_ref pa X Y hm L
  refine PW.skip ?_
  have A16 : (fmc (mcF pa X Y)).length = 5 := rfl
  have A8 : List.take 5 (fmc (mcF pa X Y)) = fmc (mcF pa X Y) := rfl
  have A5 : (fmc (mcF pa X Y)).all PV.cell = true := rfl
  (repeat refine PW.seq ?_); refine PW.rg rfl fun K hK => ?_; simp (maxSteps := 3000000) (disch := omega) only [go_sem, ↓reduceIte, reduceCtorEq, pappend, plen, e3, e9, e11, e12, A5, A16, z9]; refine VCx.call (mc _) rfl ?_; simp (maxSteps := 3000000) (disch := omega) only [go_sem, ↓reduceIte, reduceCtorEq, pappend, plen, e3, e9, e11, e12, A5, A16, z9]; refine hK _ _ ?_; clear hK K
  (repeat refine PW.seq ?_); refine PW.rg rfl fun K hK => ?_; simp (maxSteps := 3000000) (disch := omega) only [go_sem, ↓reduceIte, reduceCtorEq, pappend, plen, e3, e6]; refine hK _ _ ?_; clear hK K
  (repeat refine PW.seq ?_); refine PW.cond (t := _) rfl (fun h => ?_) (fun h => ?_)
  · have ht : c.t = 2 := by simpa using h
    rw [if_neg (by omega)] at hif
    rw [hif] at *
    have eq := fun L => eqF_ref (mcF pa X Y) L
    (repeat refine PW.seq ?_); refine PW.rg rfl fun K hK => ?_; simp (maxSteps := 3000000) (disch := omega) only [go_sem, ↓reduceIte, reduceCtorEq, pappend, plen, A16, A8]
    (repeat' (first | ((first | refine VO_cond ?_ ?_ | refine VOd_cond ?_ ?_ | refine VOg_cond ?_ ?_ | refine VOh_cond ?_ ?_ | refine VOi_cond ?_ ?_ | refine And.intro ?_ ?_) <;> intro h <;> (try simp only [Bool.not_eq_true', Bool.not_eq_false', decide_eq_true_eq, decide_eq_false_iff_not] at h) <;> simp (maxSteps := 3000000) (disch := omega) only [go_sem, ↓reduceIte, reduceCtorEq, pappend, plen, A16, A8, h]) | ((first | refine VCx.call (awake10 _) rfl ?_ | refine VCx.call (eq _) rfl ?_ | refine VCy.call (awake10 _) rfl ?_ | refine VCy.call (eq _) rfl ?_ | refine VCz.call (fun _ => awake10 _) rfl ?_ | refine VCz.call (fun _ => eq _) rfl ?_ | refine VCk.call (fun _ _ => awake10 _) rfl ?_ | refine VCk.call (fun _ _ => eq _) rfl ?_ | refine VCj.now (awake10 _) rfl ?_ | refine VCj.now (eq _) rfl ?_); simp (maxSteps := 3000000) (disch := omega) only [go_sem, ↓reduceIte, reduceCtorEq, pappend, plen, A16, A8])))
    all_goals (refine hK _ _ ?_; clear hK; (refine PW.ret ⟨_, rfl, ?_⟩; first | refine .inl ⟨?_, rfl⟩ | refine Fin.base (.id' ?_ (.bool _)) | refine Fin.base (.id' ?_ (.int _ _))); (simp_all [slot, Nat.beq] <;> first | rfl | omega | (rw [Bool.eq_iff_iff]; simp; done) | (rw [Bool.eq_iff_iff]; simp; omega)))
  have ht : c.t ≠ 2 := by simpa using h
  have ht3 : c.t = 3 := by
    have hv := hvc he
    simp only [vcx, Bool.and_eq_true, decide_eq_true_eq] at hv
    omega
  rw [if_pos ht3] at hif
  obtain ⟨hm2, hgg⟩ := hif
  have md := fun L => mcb_ref fu X Y hm2 L
  have B16 : (fmc (mcF fu X Y)).length = 5 := rfl
  have B8 : List.take 5 (fmc (mcF fu X Y)) = fmc (mcF fu X Y) := rfl
  have B5 : (fmc (mcF fu X Y)).all PV.cell = true := rfl
  refine PW.skip ?_
  (repeat refine PW.seq ?_); refine PW.rg rfl fun K hK => ?_; simp (maxSteps := 3000000) (disch := omega) only [go_sem, ↓reduceIte, reduceCtorEq, pappend, plen, e3, e10, e11, e12, B5, B16, z9]; refine VCx.call (md _) rfl ?_; simp (maxSteps := 3000000) (disch := omega) only [go_sem, ↓reduceIte, reduceCtorEq, pappend, plen, e3, e10, e11, e12, B5, B16, z9]; refine hK _ _ ?_; clear hK K
  have pd : ∀ f : Fm, hasM f X Y = true → (mcF f X Y).y.length = 256 := fun f hf => by rw [← prdF_mb hf]; exact (prdF_16 _ _ _ _ _).ly
  have l1 := pd pa hm
  have l2 := pd fu hm2
  generalize mcF pa X Y = PA at *
  generalize mcF fu X Y = PB at *
  have l3 : g.y.length = 256 := by rw [hgg]; exact (mnb_len _ _).trans l1
  have q1 : (fmc g)[2]? = some (.slice (bs g.y) 256 false) := by rw [← l3]; rfl
  have q2 : (fmc PA)[2]? = some (.slice (bs PA.y) 256 false) := by rw [← l1]; rfl
  have q3 : (fmc PB)[2]? = some (.slice (bs PB.y) 256 false) := by rw [← l2]; rfl
  have hpt : ∀ k, k < 256 → byt g.y k = (byt PA.y k + byt PB.y k + 1) / 2 := fun k hk => by rw [hgg]; exact mnb_at (by omega)
  clear hgg hbad hsk hvc hm hm2
  (repeat refine PW.seq ?_)
  refine PW.rgv (P := Tryz.prog) [3, 5, 7] 89 (.bool false) ?_ ?_ ?_
  · rfl
  · simp (maxSteps := 3000000) (disch := omega) only [go_sem, ↓reduceIte, reduceCtorEq, pappend, plen, q1, q2, q3, g7, A16, B16]; (repeat' ((first | refine VO_cond ?_ ?_ | refine VOd_cond ?_ ?_ | refine VOg_cond ?_ ?_ | refine VOh_cond ?_ ?_ | refine VOi_cond ?_ ?_ | refine And.intro ?_ ?_) <;> intro h <;> (try simp only [Bool.not_eq_true', Bool.not_eq_false', decide_eq_true_eq, decide_eq_false_iff_not] at h) <;> simp (maxSteps := 3000000) (disch := omega) only [go_sem, ↓reduceIte, reduceCtorEq, pappend, plen, q1, q2, q3, g7, A16, B16, h]))
    all_goals (simp_all [slot, Nat.beq] <;> first | rfl | omega | (rw [Bool.eq_iff_iff]; simp; done) | (rw [Bool.eq_iff_iff]; simp; omega))
  (repeat refine PW.seq ?_); refine PW.cond (t := _) rfl (fun h => ?_) (fun h => ?_)
  · cases h
  refine PW.skip ?_
  (repeat refine PW.seq ?_); refine PW.rg rfl fun K hK => ?_; simp (maxSteps := 3000000) (disch := omega) only [go_sem, ↓reduceIte, reduceCtorEq, pappend, plen]; refine hK _ _ ?_; clear hK K
  (repeat refine PW.seq ?_); refine PW.block (PW.loop ?_)
  suffices h1 : ∀ k : Nat, k ≤ 256 → PL Tryz.prog _ _ [(3, .ptr (H.length + 1) 0 0), (5, .ptr (H.length + 2) 0 0), (7, .ptr (H.length + 3) 0 0), (9, .int .i64 (k : Int))] (H ++ [⟨57, 0, C1⟩, ⟨53, 0, fmc g⟩, ⟨53, 0, fmc PA⟩, ⟨53, 0, fmc PB⟩]) _ by
    exact PL.at [3, 5, 7, 9] (h1 0 (by omega)) rfl rfl
  refine cnt 256 (fun k hk ih => ?_) ?_
  · have ct : decide ((k : Int) < ((256 : Nat) : Int)) = true := decide_eq_true (by omega)
    have b1 := byt_range g.y k
    have b2 := byt_range PA.y k
    have b3 := byt_range PB.y k
    have hp := hpt k hk
    have td : (byt PA.y k + byt PB.y k + 1).tdiv 2 = byt g.y k := by rw [tdiv_pos _ _ (by omega), hp]
    refine PL.round ?_; (repeat refine PW.seq ?_); refine PW.rg rfl fun K hK => ?_; simp (maxSteps := 3000000) (disch := omega) only [go_sem, ↓reduceIte, reduceCtorEq, pappend, plen, q1, g7, ct]; refine hK _ _ ?_; clear hK K; (repeat refine PW.seq ?_); refine PW.cond (t := _) rfl (fun h => ?_) (fun h => ?_)
    rotate_left
    · cases h
    refine PW.skip ?_; (repeat refine PW.seq ?_); refine PW.block ?_
    (repeat refine PW.seq ?_); refine PW.draw mix (by kernel_rfl) fun K hK => ?_; simp (maxSteps := 3000000) (disch := omega) only [go_sem, ↓reduceIte, reduceCtorEq, pappend, plen, q1, q2, q3, g7, A16, B16, bs_get, length_bs, l1, l2, l3, td]; refine hK _ _ ?_; clear hK K
    (repeat refine PW.seq ?_); refine PW.cond (t := _) rfl (fun h => ?_) (fun h => ?_)
    · simp at h
    refine PW.skip ?_
    (repeat refine PW.seq ?_); refine PW.rg rfl fun K hK => ?_; simp (maxSteps := 3000000) (disch := omega) only [go_sem, ↓reduceIte, reduceCtorEq, pappend, plen]; refine hK _ _ ?_; clear hK K
    exact PL.at [3, 5, 7, 9] ih rfl rfl
  have cf : decide (((256 : Nat) : Int) < ((256 : Nat) : Int)) = false := rfl
  refine PL.round ?_; (repeat refine PW.seq ?_); refine PW.rg rfl fun K hK => ?_; simp (maxSteps := 3000000) (disch := omega) only [go_sem, ↓reduceIte, reduceCtorEq, pappend, plen, q1, g7, cf]; refine hK _ _ ?_; clear hK K; (repeat refine PW.seq ?_); refine PW.cond (t := _) rfl (fun h => ?_) (fun h => ?_)
  · cases h
  refine PW.exit ?_
  (repeat refine PW.seq ?_); refine PW.rg rfl fun K hK => ?_; simp (maxSteps := 3000000) (disch := omega) only [go_sem, ↓reduceIte, reduceCtorEq, pappend, plen]; refine VCx.call (awake10 _) rfl ?_; simp (maxSteps := 3000000) (disch := omega) only [go_sem, ↓reduceIte, reduceCtorEq, pappend, plen]; refine hK _ _ ?_; clear hK K
  (refine PW.ret ⟨_, rfl, ?_⟩; first | refine .inl ⟨?_, rfl⟩ | refine Fin.base (.id' ?_ (.bool _)) | refine Fin.base (.id' ?_ (.int _ _)))
  rfl

end Go.Proofs.YtahomnplappbpaaGreatDoor.Sc
