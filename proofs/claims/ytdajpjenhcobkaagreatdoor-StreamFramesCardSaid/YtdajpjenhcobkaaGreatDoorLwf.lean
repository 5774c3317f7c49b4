/-
  THE STATEMENT StreamFramesCardSaid, PROVED (from the contract 'law_frames'); the tie of the listed variables is the given one.
-/
import Derived.Test.YtdajpjenhcobkaaGreatDoorLwfA
import Derived.Test.YtdajpjenhcobkaaGreatDoorLwfC
import Derived.Test.YtdajpjenhcobkaaGreatDoorLwfD
import Derived.Test.YtdajpjenhcobkaaGreatDoorX03
import Derived.Test.YtdajpjenhcobkaaGreatDoorCards
import Derived.Test.YtdajpjenhcobkaaGreatDoorTie
import Derived.SevenTiedAt
namespace Go.Proofs.YtdajpjenhcobkaaGreatDoor.Lwf
set_option linter.all false
set_option linter.unusedVariables false
set_option linter.unusedSimpArgs false
open Go.ChangeShapes Go.WideShapes Go.ChangeAt Go.RowKit Pm Sc Lp Lg

theorem zfK : Rows.StreamFramesSaid :=
  OpenClaim.holds_of_wide 3 Tryz.f3 rfl rfl rfl rfl rfl rfl rfl ⟨rfl, rfl, rfl, rfl, rfl⟩ rfl rfl rfl rfl rfl (by kernel_rfl) Tryz.func3 zwA
    (of_decide_eq_true (by kernel_rfl)) (by unfold Func.isWrapper; first | (rw [if_pos (by decide +kernel)]; kernel_rfl) | (rw [if_neg (by decide +kernel)]; exact ⟨rfl, rfl⟩))
    (fun os started H enc _ => zev os started H enc)

theorem d1 : Rows.streamFramesRow.wfByText (OpenSpec.ofChange Rows.streamFramesSpec) = true := by kernel_rfl
theorem d2 : Tryz.pinned.checked.prog.mainIs = some (true, "2991fdf7824a192ddf0e2f399383eca9a5a6ace43ef0cb0f38358d207ccc5b4e".toList) := by kernel_rfl
theorem d3 : true = Tryz.pinned.checked.prog.looks [] := by kernel_rfl
theorem d6 : (Tryz.f3.params.toList.all fun u => !Tryz.prog.wantsStandIn u) = true := by kernel_rfl
theorem streamFrames_holds : Rows.StreamFramesCardSaid :=
  Claim7.holds_tied_plain_at .later [] [.data, .data] true (true, "2991fdf7824a192ddf0e2f399383eca9a5a6ace43ef0cb0f38358d207ccc5b4e") true
    zfK (fun _ h => by cases h) d1 (fun _ h => by cases h) streamFrames_row_tie rfl ⟨rfl, rfl⟩ d2 rfl
    (fun f fn hf hfn => by
      obtain rfl : f = 3 := Option.some.inj ((show Tryz.prog.funcNamed "cutroom/cutroomlaw12.StreamFrames" = some 3 by kernel_rfl).symm.trans hf) |>.symm
      obtain rfl : fn = Tryz.f3 := (Option.some.inj (Tryz.func3.symm.trans hfn)).symm
      exact ⟨d3, fun j t ht => by
        have hm : t ∈ Tryz.f3.params.toList := by simpa using Array.mem_of_getElem? ht
        have hall := d6
        exact (show Tryz.prog.wantsStandIn t = false by simpa using List.all_eq_true.1 hall t hm)⟩)
    goes

end Go.Proofs.YtdajpjenhcobkaaGreatDoor.Lwf
