/-
  What the statement StreamBackCardSaid's row asks of its law, shown (from the contract 'law_back'); the tie of the listed variables is the given one.
-/
import Derived.Test.YtbhdollgohgkgaaDoorB07
import Derived.Test.YtbhdollgohgkgaaDoorB11
import Derived.Test.YtbhdollgohgkgaaDoorB29
import Derived.Test.YtbhdollgohgkgaaDoorB04
import Derived.Test.YtbhdollgohgkgaaDoorCards
import Derived.Test.YtbhdollgohgkgaaDoorTie
import Derived.SevenTiedAt
namespace Go.Proofs.YtbhdollgohgkgaaDoor.Lsb
set_option linter.all false
set_option linter.unusedVariables false
set_option linter.unusedSimpArgs false
open Go.ChangeShapes Go.WideShapes Go.ChangeAt Go.RowKit Pm Sc Lp Lg

theorem law : ∀ xs, ArgsShp Tryd.prog Tryd.f3.params.toList xs → CallOk Tryd.prog 3 xs [] (.bool true) [] := by
  intro xs h
  rw [Tryd.params3] at h
  obtain ⟨x, r, rfl, hx, h⟩ := h.cons
  obtain rfl := h.nil
  obtain ⟨l, hh, hl⟩ := shp_items (hx.one (by simp [aggT, Tryd.underlying22]))
  cases hh
  exact law_back l false [] hl

theorem door_met (os : Os) (args : Array Value) : laidMetH Tryd.prog Rows.streamBackRow.laid ((World.doorLaid Tryd.prog 19 os).forCall (fun _ _ => 0) ⟨#[], args, []⟩).memory :=
  laidMetH_of_parts3 (fuel := 8) (laidMet_of_run' 8 (by kernel_rfl) (by kernel_rfl)) (by kernel_rfl) (by kernel_rfl)
theorem mem0 {a : String × DataW Unit} {l : List (String × DataW Unit)} : a ∈ a :: l := .head _
theorem mem1 {a b : String × DataW Unit} {l : List (String × DataW Unit)} : a ∈ b :: a :: l := .tail _ (.head _)
set_option maxRecDepth 100000 in
theorem streamBack_lifted (os : Os) (started : os.Started) (H : Type) (enc : TypeId × Value → H) :
    ReturnsInHanded {} Tryd.checked os 3 .any (fun w args => (Rows.streamBackSpec.pre enc Tryd.prog Tryd.f3 [] false w args ∧ laidMetH Tryd.prog Rows.streamBackRow.laid w) ∧ sizedMet enc Tryd.prog Tryd.f3 (OpenSpec.ofChange Rows.streamBackSpec) false w args) (Rows.streamBackSpec.post enc Tryd.prog Tryd.f3 false true false false) := by
  refine returnsInHanded_of_change_and (C := Tryd.checked) (X := fun w _ => laidMetH Tryd.prog Rows.streamBackRow.laid w) (fun _ _ _ hh h => h.of_heap hh) own started (by kernel_rfl) Tryd.func3
    (ChangeSpec.witness_shaped (enc := enc) (C := Tryd.checked) (os := os) (X := fun w _ => laidMetH Tryd.prog Rows.streamBackRow.laid w) false (World.doorLaid Tryd.prog 19 os) #[.slice none 0 0] 8 rfl (World.shaped_of_RefB (by kernel_rfl) (by kernel_rfl)) (by kernel_rfl) (by kernel_rfl) (by kernel_rfl) (door_met os _)) ?_
  intro W base args ds gs before hval hW _ hsz hL _
  exact law_call (P := Tryd.prog) (fn := Tryd.f3) (n := 12) (tb := 4) (b0 := base) (r := .any) hsz (glob_of hL (by kernel_rfl) mem0 mem1) law laidOut (by kernel_rfl) (by kernel_rfl) (by kernel_rfl) Tryd.underlying4 rfl
    (fun ds hd => match ds, hd with | [d0], _ => rfl) hval hW

end Go.Proofs.YtbhdollgohgkgaaDoor.Lsb
