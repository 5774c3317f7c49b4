/-
  THE STATEMENT StreamDisplaysCardSaid, PROVED (from the contract 'law_disp'); the tie of the listed variables is the given one.
-/
import Derived.Test.YtpjlfoficnpfoaaGreatDoorLwdA
import Derived.Test.YtpjlfoficnpfoaaGreatDoorLwdC
import Derived.Test.YtpjlfoficnpfoaaGreatDoorLwdD
import Derived.Test.YtpjlfoficnpfoaaGreatDoorS23
import Derived.Test.YtpjlfoficnpfoaaGreatDoorCards
import Derived.Test.YtpjlfoficnpfoaaGreatDoorTie
import Derived.SevenTiedAt
namespace Go.Proofs.YtpjlfoficnpfoaaGreatDoor.Lwd
set_option linter.all false
set_option linter.unusedVariables false
set_option linter.unusedSimpArgs false
open Go.ChangeShapes Go.WideShapes Go.ChangeAt Go.RowKit Pm Sc Lp Lg

theorem zeq : Rows.StreamDisplaysSaid :=
  OpenClaim.holds_of_wide 7 Tryz.f7 rfl rfl rfl rfl rfl rfl rfl ⟨rfl, rfl, rfl, rfl, rfl⟩ rfl rfl rfl rfl rfl (by kernel_rfl) Tryz.func7 closed
    (of_decide_eq_true (by kernel_rfl)) (by unfold Func.isWrapper; first | (rw [if_pos (by decide +kernel)]; kernel_rfl) | (rw [if_neg (by decide +kernel)]; exact ⟨rfl, rfl⟩))
    (fun os started H enc _ => zds os started H enc)

theorem d1 : Rows.streamDisplaysRow.wfByText (OpenSpec.ofChange Rows.streamDisplaysSpec) = true := by kernel_rfl
theorem d2 : Tryz.pinned.checked.prog.mainIs = some (true, "fae52af472d1364416375417c8b95deb5796ad133e2d12b069966f2e0a113dbf".toList) := by kernel_rfl
theorem d3 : true = Tryz.pinned.checked.prog.looks [] := by kernel_rfl
theorem d6 : (Tryz.f7.params.toList.all fun u => !Tryz.prog.wantsStandIn u) = true := by kernel_rfl
theorem streamDisplays_holds : Rows.StreamDisplaysCardSaid :=
  Claim7.holds_tied_plain_at .later [] [.data, .data] true (true, "fae52af472d1364416375417c8b95deb5796ad133e2d12b069966f2e0a113dbf") true
    zeq (fun _ h => by cases h) d1 (fun _ h => by cases h) streamDisplays_row_tie rfl ⟨rfl, rfl⟩ d2 rfl
    (fun f fn hf hfn => by
      obtain rfl : f = 7 := Option.some.inj ((show Tryz.prog.funcNamed "cutroom/cutroomlaw12.StreamDisplays" = some 7 by kernel_rfl).symm.trans hf) |>.symm
      obtain rfl : fn = Tryz.f7 := (Option.some.inj (Tryz.func7.symm.trans hfn)).symm
      exact ⟨d3, fun j t ht => by
        have hm : t ∈ Tryz.f7.params.toList := by simpa using Array.mem_of_getElem? ht
        have hall := d6
        exact (show Tryz.prog.wantsStandIn t = false by simpa using List.all_eq_true.1 hall t hm)⟩)
    goes

end Go.Proofs.YtpjlfoficnpfoaaGreatDoor.Lwd
