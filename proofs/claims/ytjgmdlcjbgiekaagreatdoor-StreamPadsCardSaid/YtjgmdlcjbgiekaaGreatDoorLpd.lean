/-
  THE STATEMENT StreamPadsCardSaid, PROVED (from the contract 'law_pads'); the tie of the listed variables is the given one.
-/
import Derived.Test.YtjgmdlcjbgiekaaGreatDoorLpdA
import Derived.Test.YtjgmdlcjbgiekaaGreatDoorLpdC
import Derived.Test.YtjgmdlcjbgiekaaGreatDoorLpdD
import Derived.Test.YtjgmdlcjbgiekaaGreatDoorP22
import Derived.Test.YtjgmdlcjbgiekaaGreatDoorCards
import Derived.Test.YtjgmdlcjbgiekaaGreatDoorTie
import Derived.SevenTiedAt
namespace Go.Proofs.YtjgmdlcjbgiekaaGreatDoor.Lpd
set_option linter.all false
set_option linter.unusedVariables false
set_option linter.unusedSimpArgs false
open Go.ChangeShapes Go.WideShapes Go.ChangeAt Go.RowKit Pm Sc Lp Lg

theorem zgk : Rows.StreamPadsSaid :=
  OpenClaim.holds_of_wide 7 Tryz.f7 rfl rfl rfl rfl rfl rfl rfl ⟨rfl, rfl, rfl, rfl, rfl⟩ rfl rfl rfl rfl rfl (by kernel_rfl) Tryz.func7 zu1
    (of_decide_eq_true (by kernel_rfl)) (by unfold Func.isWrapper; first | (rw [if_pos (by decide +kernel)]; kernel_rfl) | (rw [if_neg (by decide +kernel)]; exact ⟨rfl, rfl⟩))
    (fun os started H enc _ => zed os started H enc)

theorem d1 : Rows.streamPadsRow.wfByText (OpenSpec.ofChange Rows.streamPadsSpec) = true := by kernel_rfl
theorem d2 : Tryz.pinned.checked.prog.mainIs = some (true, "51e00d9e20a46bc58a5f9c18d362089ba620e69dbbee05919f5d863ebc9a1ed1".toList) := by kernel_rfl
theorem d3 : true = Tryz.pinned.checked.prog.looks [] := by kernel_rfl
theorem d6 : (Tryz.f7.params.toList.all fun u => !Tryz.prog.wantsStandIn u) = true := by kernel_rfl
theorem streamPads_holds : Rows.StreamPadsCardSaid :=
  Claim7.holds_tied_plain_at .later [] [.data, .data] true (true, "51e00d9e20a46bc58a5f9c18d362089ba620e69dbbee05919f5d863ebc9a1ed1") true
    zgk (fun _ h => by cases h) d1 (fun _ h => by cases h) streamPads_row_tie rfl ⟨rfl, rfl⟩ d2 rfl
    (fun f fn hf hfn => by
      obtain rfl : f = 7 := Option.some.inj ((show Tryz.prog.funcNamed "cutroom/cutroomlaw12.StreamPads" = some 7 by kernel_rfl).symm.trans hf) |>.symm
      obtain rfl : fn = Tryz.f7 := (Option.some.inj (Tryz.func7.symm.trans hfn)).symm
      exact ⟨d3, fun j t ht => by
        have hm : t ∈ Tryz.f7.params.toList := by simpa using Array.mem_of_getElem? ht
        have hall := d6
        exact (show Tryz.prog.wantsStandIn t = false by simpa using List.all_eq_true.1 hall t hm)⟩)
    goes

end Go.Proofs.YtjgmdlcjbgiekaaGreatDoor.Lpd
