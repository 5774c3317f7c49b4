/-
  What the statement StreamDecodesCardSaid's row asks of its law, shown (from the contract 'law_decodes'); the tie of the listed variables is the given one.
-/
import Derived.Test.YtleejngibkbjnaaGreatDoorW05
import Derived.Test.YtleejngibkbjnaaGreatDoorW07
import Derived.Test.YtleejngibkbjnaaGreatDoorW43
import Derived.Test.YtleejngibkbjnaaGreatDoorW03
import Derived.Test.YtleejngibkbjnaaGreatDoorCards
import Derived.Test.YtleejngibkbjnaaGreatDoorTie
import Derived.SevenTiedAt
namespace Go.Proofs.YtleejngibkbjnaaGreatDoor.Lwx
set_option linter.all false
set_option linter.unusedVariables false
set_option linter.unusedSimpArgs false
open Go.ChangeShapes Go.WideShapes Go.ChangeAt Go.RowKit Pm Sc Lp Lg

theorem law : ∀ xs, ArgsShp Tryz.prog Tryz.f3.params.toList xs → CallOk Tryz.prog 3 xs [] (.bool true) [] := by
  intro xs h
  rw [Tryz.params3] at h
  obtain ⟨x, r, rfl, hx, h⟩ := h.cons
  obtain rfl := h.nil
  obtain ⟨l, hh, hl⟩ := zp5 (hx.one (by simp [zd1, Tryz.underlying22]))
  cases hh
  exact zmA l false [] hl

theorem zt3 (os : Os) (args : Array Value) : laidMetH Tryz.prog Rows.streamDecodesRow.laid ((World.doorLaid Tryz.prog 19 os).forCall (fun _ _ => 0) ⟨#[], args, []⟩).memory :=
  laidMetH_of_parts3 (fuel := 8) (laidMet_of_run' 8 (by kernel_rfl) (by kernel_rfl)) (by kernel_rfl) (by kernel_rfl)
theorem mem0 {a : String × DataW Unit} {l : List (String × DataW Unit)} : a ∈ a :: l := .head _
theorem mem1 {a b : String × DataW Unit} {l : List (String × DataW Unit)} : a ∈ b :: a :: l := .tail _ (.head _)
set_option maxRecDepth 100000 in
theorem zd8 (os : Os) (started : os.Started) (H : Type) (enc : TypeId × Value → H) :
    ReturnsInHanded {} Tryz.checked os 3 .any (fun w args => (Rows.streamDecodesSpec.pre enc Tryz.prog Tryz.f3 [] false w args ∧ laidMetH Tryz.prog Rows.streamDecodesRow.laid w) ∧ sizedMet enc Tryz.prog Tryz.f3 (OpenSpec.ofChange Rows.streamDecodesSpec) false w args) (Rows.streamDecodesSpec.post enc Tryz.prog Tryz.f3 false true false false) := by
  refine returnsInHanded_of_change_and (C := Tryz.checked) (X := fun w _ => laidMetH Tryz.prog Rows.streamDecodesRow.laid w) (fun _ _ _ hh h => h.of_heap hh) own started (by kernel_rfl) Tryz.func3
    (ChangeSpec.witness_shaped (enc := enc) (C := Tryz.checked) (os := os) (X := fun w _ => laidMetH Tryz.prog Rows.streamDecodesRow.laid w) false (World.doorLaid Tryz.prog 19 os) #[.slice none 0 0] 8 rfl (World.shaped_of_RefB (by kernel_rfl) (by kernel_rfl)) (by kernel_rfl) (by kernel_rfl) (by kernel_rfl) (zt3 os _)) ?_
  intro W base args ds gs before hval hW _ hsz hL _
  exact zte (P := Tryz.prog) (fn := Tryz.f3) (n := 12) (tb := 4) (b0 := base) (r := .any) hsz (zvT hL (by kernel_rfl) mem0 mem1) law zvL (by kernel_rfl) (by kernel_rfl) (by kernel_rfl) Tryz.underlying4 rfl
    (fun ds hd => match ds, hd with | [d0], _ => rfl) hval hW

end Go.Proofs.YtleejngibkbjnaaGreatDoor.Lwx
