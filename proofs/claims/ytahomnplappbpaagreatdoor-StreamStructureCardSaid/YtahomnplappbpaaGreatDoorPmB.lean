/-
  Rows that list package-level variables: what the listed tables give the logic ('Glob'); a start that meets the list. No condition.
-/
import Derived.Test.YtahomnplappbpaaGreatDoorPmL
import Derived.Test.YtahomnplappbpaaGreatDoorRows
import Derived.LaidMore
import Derived.OpenShut
import Derived.MakeChecks
import Derived.LaidHandle
import Derived.FnData
namespace Go.Proofs.YtahomnplappbpaaGreatDoor.Pm
set_option linter.all false
set_option linter.unusedVariables false
set_option linter.unusedSimpArgs false
open Go.ChangeShapes Go.WideShapes Go.ChangeAt Go.RowKit

variable {P : Program} {W : World}

theorem tab_of_trod {t e : TypeId} {n fuel : Nat} {k : IntKind} {cs : List Value} {z : List Int} {p : List MemPlace} (ht : P.underlying t = some (.array n e)) (he : P.underlying e = some (.int k)) (hc : P.cellsOf e = 1)
    (h : DataW.trod (fun _ => ()) P W 0 (fun _ => true) false fuel t cs = some (.agg (z.map fun x => .lit (.int k x)), p)) : ∀ (j : Nat) (x : Int), z[j]? = some x → cs[j]? = some (.int k x) := by
  obtain ⟨xs, m, rfl, hx, hlen, hn, hel⟩ := DataW.trod_array ht h
  intro j x hj
  simp only [Prod.mk.injEq, DataW.agg.injEq] at hx
  have hx1 := congrArg (fun l => l[j]?) hx.1
  simp only [List.getElem?_map, hj, Option.map_some] at hx1
  cases hy : xs[j]? with
  | none => rw [hy] at hx1; cases hx1
  | some y =>
    rw [hy] at hx1
    simp only [Option.map_some, Option.some.injEq] at hx1
    have hjn : j < n := by rw [← hn]; exact (List.getElem?_eq_some_iff.1 hy).1
    have hd := hel j hjn
    rw [hy, hc, Nat.mul_one] at hd
    obtain ⟨r, e1, e2, _⟩ := DataW.trod_int he hd
    rw [e2] at hx1
    simp only [DataW.lit.injEq, Lit.int.injEq, true_and] at hx1
    subst hx1
    have := congrArg (fun l => l[0]?) e1
    simpa using this
theorem laidVars_mem : ∀ {l : List (String × DataW Unit)} {ps : List MemPlace}, DataW.LaidVars P W l ps → ∀ x ∈ l, ∃ g t cs fuel p, P.globalNamed x.1 = some g ∧ (P.globals[g]?).map (·.type) = some t ∧ W.var? P x.1 = some cs ∧ DataW.trod (fun _ => ()) P W 0 (fun _ => true) false fuel t cs.toList = some (x.2, p)
  | [], _, _, x, hx => by cases hx
  | (n, d) :: r, ps, h, x, hx => by
    obtain ⟨g, t, cs, fuel, p, q, h1, h2, h3, h4, h5, _⟩ := h
    rcases List.mem_cons.1 hx with rfl | hx
    · exact ⟨g, t, cs, fuel, p, h1, h2, h3, h4⟩
    · exact laidVars_mem h5 x hx
theorem glob_row {l : List (String × DataW Unit)} {nm : String} {g n : Nat} {t e : TypeId} {k : IntKind} {z : List Int} (h : laidMet P l W) (hm : (nm, DataW.agg (z.map fun x => .lit (.int k x))) ∈ l) (hg : P.globalNamed nm = some g) (ht : (P.globals[g]?).map (·.type) = some t)
    (hu : P.underlying t = some (.array n e)) (he : P.underlying e = some (.int k)) (hc : P.cellsOf e = 1) : ∀ (j : Nat) (x : Int), z[j]? = some x → (Ctx.start W).M g j = some (.int k x) := fun j x hj => by
  obtain ⟨ps, hv, _⟩ := h
  obtain ⟨g', t', cs, fuel, p, h1, h2, h3, h4⟩ := laidVars_mem hv _ hm
  obtain rfl := Option.some.inj (hg.symm.trans h1)
  obtain rfl := Option.some.inj (ht.symm.trans h2)
  have h5 := tab_of_trod hu he hc h4 j x hj
  show W.cell? ⟨g, j, none⟩ = _
  rw [World.var?_cell hg h3 j, ← h5]
  simp
theorem glob_of {l : List (String × DataW Unit)} (h : laidMetH Tryz.prog l W) (hl : (l.all fun x => x.2.handleName?.isNone) = true)
    (h1 : ("cutroom/quant.alternateScan", Rows.laid_cutroom_quant_alternateScan) ∈ l)
    (h2 : ("cutroom/quant.defaultIntra", Rows.laid_cutroom_quant_defaultIntra) ∈ l)
    : Glob (Ctx.start W).M := by
  rw [MakeChecks.laidMetH_plain _ _ _ hl] at h
  intro g l hg
  unfold gtab at hg
  split at hg
  · rename_i e
    subst e
    obtain rfl := Option.some.inj hg
    intro j x hj
    unfold gAlt at hj
    rw [List.getElem?_map, Option.map_eq_some_iff] at hj
    obtain ⟨y, hy, rfl⟩ := hj
    exact glob_row (t := 47) h (k := .i64) h1 (by kernel_rfl) (by kernel_rfl) Tryz.underlying47 Tryz.underlying3 (by kernel_rfl) j y hy
  split at hg
  · rename_i e
    subst e
    obtain rfl := Option.some.inj hg
    intro j x hj
    unfold gIntra at hj
    rw [List.getElem?_map, Option.map_eq_some_iff] at hj
    obtain ⟨y, hy, rfl⟩ := hj
    exact glob_row (t := 36) h (k := .u8) h2 (by kernel_rfl) (by kernel_rfl) Tryz.underlying36 Tryz.underlying5 (by kernel_rfl) j y hy
  cases hg

end Go.Proofs.YtahomnplappbpaaGreatDoor.Pm
