/-
  THE STATEMENT StreamStructureCardSaid, PROVED (from the contract 'law_structure12'); the tie of the listed variables is the given one.
-/
import Derived.Test.YtahomnplappbpaaGreatDoorLp
import Derived.Test.YtahomnplappbpaaGreatDoorLg
import Derived.Test.YtahomnplappbpaaGreatDoorYi
import Derived.Test.YtahomnplappbpaaGreatDoorPmB
import Derived.Test.YtahomnplappbpaaGreatDoorCards
import Derived.Test.YtahomnplappbpaaGreatDoorTie
import Derived.SevenTiedAt
namespace Go.Proofs.YtahomnplappbpaaGreatDoor.Lst
set_option linter.all false
set_option linter.unusedVariables false
set_option linter.unusedSimpArgs false
open Go.ChangeShapes Go.WideShapes Go.ChangeAt Go.RowKit Pm Sc Lp Lg

theorem law : ∀ xs, ArgsShp Tryz.prog Tryz.f3.params.toList xs → CallOk Tryz.prog 3 xs [] (.bool true) [] := by
  intro xs h
  rw [Tryz.params3] at h
  obtain ⟨x, r, rfl, hx, h⟩ := h.cons
  obtain rfl := h.nil
  obtain ⟨l, hh, hl⟩ := shp_items (hx.one (by simp [aggT, Tryz.underlying22]))
  cases hh
  exact law_structure12 l false [] hl

theorem door_met (os : Os) (args : Array Value) : laidMetH Tryz.prog Rows.streamStructureRow.laid ((World.doorLaid Tryz.prog 19 os).forCall (fun _ _ => 0) ⟨#[], args, []⟩).memory :=
  laidMetH_of_parts3 (fuel := 8) (laidMet_of_run' 8 (by kernel_rfl) (by kernel_rfl)) (by kernel_rfl) (by kernel_rfl)
theorem mem0 {a : String × DataW Unit} {l : List (String × DataW Unit)} : a ∈ a :: l := .head _
theorem mem1 {a b : String × DataW Unit} {l : List (String × DataW Unit)} : a ∈ b :: a :: l := .tail _ (.head _)
set_option maxRecDepth 100000 in
theorem streamStructure_lifted (os : Os) (started : os.Started) (H : Type) (enc : TypeId × Value → H) :
    ReturnsInHanded {} Tryz.checked os 3 .any (fun w args => (Rows.streamStructureSpec.pre enc Tryz.prog Tryz.f3 [] false w args ∧ laidMetH Tryz.prog Rows.streamStructureRow.laid w) ∧ sizedMet enc Tryz.prog Tryz.f3 (OpenSpec.ofChange Rows.streamStructureSpec) false w args) (Rows.streamStructureSpec.post enc Tryz.prog Tryz.f3 false true false false) := by
  refine returnsInHanded_of_change_and (C := Tryz.checked) (X := fun w _ => laidMetH Tryz.prog Rows.streamStructureRow.laid w) (fun _ _ _ hh h => h.of_heap hh) own started (by kernel_rfl) Tryz.func3
    (ChangeSpec.witness_shaped (enc := enc) (C := Tryz.checked) (os := os) (X := fun w _ => laidMetH Tryz.prog Rows.streamStructureRow.laid w) false (World.doorLaid Tryz.prog 19 os) #[.slice none 0 0] 8 rfl (World.shaped_of_RefB (by kernel_rfl) (by kernel_rfl)) (by kernel_rfl) (by kernel_rfl) (by kernel_rfl) (door_met os _)) ?_
  intro W base args ds gs before hval hW _ _ hL _
  exact law_call (P := Tryz.prog) (fn := Tryz.f3) (n := 12) (tb := 4) (b0 := base) (r := .any) (glob_of hL (by kernel_rfl) mem0 mem1) law laidOut (by kernel_rfl) (by kernel_rfl) (by kernel_rfl) Tryz.underlying4 rfl
    (fun ds hd => match ds, hd with | [d0], _ => rfl) hval hW

theorem streamStructure_row : Rows.StreamStructureSaid :=
  OpenClaim.holds_of_wide 3 Tryz.f3 rfl rfl rfl rfl rfl rfl rfl ⟨rfl, rfl, rfl, rfl, rfl⟩ rfl rfl rfl rfl rfl (by kernel_rfl) Tryz.func3 (by kernel_rfl)
    (of_decide_eq_true (by kernel_rfl)) (by unfold Func.isWrapper; first | (rw [if_pos (by decide +kernel)]; kernel_rfl) | (rw [if_neg (by decide +kernel)]; exact ⟨rfl, rfl⟩))
    (fun os started H enc _ => streamStructure_lifted os started H enc)

theorem streamStructure_holds : Rows.StreamStructureCardSaid :=
  Claim7.holds_tied_plain_at .later [] [.data, .data] true (true, "f0f325d866fe83e887c666016ae5342c1d6a645d7283e444ce983afc131d1444") true
    streamStructure_row (fun _ h => by cases h) (by kernel_rfl) (fun _ h => by cases h) streamStructure_row_tie rfl ⟨rfl, rfl⟩ (by kernel_rfl) rfl
    (fun f fn hf hfn => by
      obtain rfl : f = 3 := Option.some.inj ((show Tryz.prog.funcNamed "cutroom/cutroomlaw12.StreamStructure" = some 3 by kernel_rfl).symm.trans hf) |>.symm
      obtain rfl : fn = Tryz.f3 := (Option.some.inj (Tryz.func3.symm.trans hfn)).symm
      exact ⟨by kernel_rfl, fun j t ht => by
        have hm : t ∈ Tryz.f3.params.toList := by simpa using Array.mem_of_getElem? ht
        have hall : (Tryz.f3.params.toList.all fun u => !Tryz.prog.wantsStandIn u) = true := by kernel_rfl
        exact (show Tryz.prog.wantsStandIn t = false by simpa using List.all_eq_true.1 hall t hm)⟩)
    (by kernel_rfl)

end Go.Proofs.YtahomnplappbpaaGreatDoor.Lst
