/-
  THE STATEMENT MacroblockReconstructsCardSaid, PROVED (from the contract 'law_recon'); the tie of the listed variables is the given one.
-/
import Derived.Test.YtahomnplappbpaaGreatDoorLrcA
import Derived.Test.YtahomnplappbpaaGreatDoorLrcC
import Derived.Test.YtahomnplappbpaaGreatDoorW44
import Derived.Test.YtahomnplappbpaaGreatDoorCards
import Derived.Test.YtahomnplappbpaaGreatDoorTie
import Derived.SevenTiedAt
namespace Go.Proofs.YtahomnplappbpaaGreatDoor.Lrc
set_option linter.all false
set_option linter.unusedVariables false
set_option linter.unusedSimpArgs false
open Go.ChangeShapes Go.WideShapes Go.ChangeAt Go.RowKit Pm Sc Lcs

theorem macroblockReconstructs_row : Rows.MacroblockReconstructsSaid :=
  OpenClaim.holds_of_wide 4 Tryz.f4 rfl rfl rfl rfl rfl rfl rfl ⟨rfl, rfl, rfl, rfl, rfl⟩ rfl rfl rfl rfl rfl (by kernel_rfl) Tryz.func4 closed
    (of_decide_eq_true (by kernel_rfl)) (by unfold Func.isWrapper; first | (rw [if_pos (by decide +kernel)]; kernel_rfl) | (rw [if_neg (by decide +kernel)]; exact ⟨rfl, rfl⟩))
    (fun os started H enc _ => macroblockReconstructs_lifted os started H enc)

theorem macroblockReconstructs_holds : Rows.MacroblockReconstructsCardSaid :=
  Claim7.holds_tied_plain_at .later [] [.data] true (true, "f0f325d866fe83e887c666016ae5342c1d6a645d7283e444ce983afc131d1444") true
    macroblockReconstructs_row (fun _ h => by cases h) (by kernel_rfl) (fun _ h => by cases h) macroblockReconstructs_row_tie rfl ⟨rfl, rfl⟩ (by kernel_rfl) rfl
    (fun f fn hf hfn => by
      obtain rfl : f = 4 := Option.some.inj ((show Tryz.prog.funcNamed "cutroom/cutroomlaw10.MacroblockReconstructs" = some 4 by kernel_rfl).symm.trans hf) |>.symm
      obtain rfl : fn = Tryz.f4 := (Option.some.inj (Tryz.func4.symm.trans hfn)).symm
      exact ⟨by kernel_rfl, fun j t ht => by
        have hm : t ∈ Tryz.f4.params.toList := by simpa using Array.mem_of_getElem? ht
        have hall : (Tryz.f4.params.toList.all fun u => !Tryz.prog.wantsStandIn u) = true := by kernel_rfl
        exact (show Tryz.prog.wantsStandIn t = false by simpa using List.all_eq_true.1 hall t hm)⟩)
    (by kernel_rfl)

end Go.Proofs.YtahomnplappbpaaGreatDoor.Lrc
