/-
  THE STATEMENT StreamWellCardSaid, PROVED (from the contract 'law_well'); the tie of the listed variables is the given one.
-/
import Derived.Test.YtpjlfoficnpfoaaGreatDoorLwwA
import Derived.Test.YtpjlfoficnpfoaaGreatDoorLwwC
import Derived.Test.YtpjlfoficnpfoaaGreatDoorLwwD
import Derived.Test.YtpjlfoficnpfoaaGreatDoorV23
import Derived.Test.YtpjlfoficnpfoaaGreatDoorCards
import Derived.Test.YtpjlfoficnpfoaaGreatDoorTie
import Derived.SevenTiedAt
namespace Go.Proofs.YtpjlfoficnpfoaaGreatDoor.Lww
set_option linter.all false
set_option linter.unusedVariables false
set_option linter.unusedSimpArgs false
open Go.ChangeShapes Go.WideShapes Go.ChangeAt Go.RowKit Pm Sc Lp Lg

theorem zgZ : Rows.StreamWellSaid :=
  OpenClaim.holds_of_wide 3 Tryz.f3 rfl rfl rfl rfl rfl rfl rfl ⟨rfl, rfl, rfl, rfl, rfl⟩ rfl rfl rfl rfl rfl (by kernel_rfl) Tryz.func3 zvT
    (of_decide_eq_true (by kernel_rfl)) (by unfold Func.isWrapper; first | (rw [if_pos (by decide +kernel)]; kernel_rfl) | (rw [if_neg (by decide +kernel)]; exact ⟨rfl, rfl⟩))
    (fun os started H enc _ => zeP os started H enc)

theorem d1 : Rows.streamWellRow.wfByText (OpenSpec.ofChange Rows.streamWellSpec) = true := by kernel_rfl
theorem d2 : Tryz.pinned.checked.prog.mainIs = some (true, "fae52af472d1364416375417c8b95deb5796ad133e2d12b069966f2e0a113dbf".toList) := by kernel_rfl
theorem d3 : true = Tryz.pinned.checked.prog.looks [] := by kernel_rfl
theorem d6 : (Tryz.f3.params.toList.all fun u => !Tryz.prog.wantsStandIn u) = true := by kernel_rfl
theorem streamWell_holds : Rows.StreamWellCardSaid :=
  Claim7.holds_tied_plain_at .later [] [.data, .data] true (true, "fae52af472d1364416375417c8b95deb5796ad133e2d12b069966f2e0a113dbf") true
    zgZ (fun _ h => by cases h) d1 (fun _ h => by cases h) streamWell_row_tie rfl ⟨rfl, rfl⟩ d2 rfl
    (fun f fn hf hfn => by
      obtain rfl : f = 3 := Option.some.inj ((show Tryz.prog.funcNamed "cutroom/cutroomlaw12.StreamWell" = some 3 by kernel_rfl).symm.trans hf) |>.symm
      obtain rfl : fn = Tryz.f3 := (Option.some.inj (Tryz.func3.symm.trans hfn)).symm
      exact ⟨d3, fun j t ht => by
        have hm : t ∈ Tryz.f3.params.toList := by simpa using Array.mem_of_getElem? ht
        have hall := d6
        exact (show Tryz.prog.wantsStandIn t = false by simpa using List.all_eq_true.1 hall t hm)⟩)
    goes

end Go.Proofs.YtpjlfoficnpfoaaGreatDoor.Lww
