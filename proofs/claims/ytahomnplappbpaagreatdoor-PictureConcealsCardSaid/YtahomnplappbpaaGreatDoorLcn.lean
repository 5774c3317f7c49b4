/-
  THE STATEMENT PictureConcealsCardSaid, PROVED (from the contract 'law_conceals'); the tie of the listed variables is the given one.
-/
import Derived.Test.YtahomnplappbpaaGreatDoorLcnA
import Derived.Test.YtahomnplappbpaaGreatDoorLcnC
import Derived.Test.YtahomnplappbpaaGreatDoorV29
import Derived.Test.YtahomnplappbpaaGreatDoorCards
import Derived.Test.YtahomnplappbpaaGreatDoorTie
import Derived.SevenTiedAt
namespace Go.Proofs.YtahomnplappbpaaGreatDoor.Lcn
set_option linter.all false
set_option linter.unusedVariables false
set_option linter.unusedSimpArgs false
open Go.ChangeShapes Go.WideShapes Go.ChangeAt Go.RowKit Pm Sc Lp

theorem pictureConceals_row : Rows.PictureConcealsSaid :=
  OpenClaim.holds_of_wide 8 Tryz.f8 rfl rfl rfl rfl rfl rfl rfl ⟨rfl, rfl, rfl, rfl, rfl⟩ rfl rfl rfl rfl rfl (by kernel_rfl) Tryz.func8 closed
    (of_decide_eq_true (by kernel_rfl)) (by unfold Func.isWrapper; first | (rw [if_pos (by decide +kernel)]; kernel_rfl) | (rw [if_neg (by decide +kernel)]; exact ⟨rfl, rfl⟩))
    (fun os started H enc _ => pictureConceals_lifted os started H enc)

theorem pictureConceals_holds : Rows.PictureConcealsCardSaid :=
  Claim7.holds_tied_plain_at .later [] [.data] true (true, "f0f325d866fe83e887c666016ae5342c1d6a645d7283e444ce983afc131d1444") true
    pictureConceals_row (fun _ h => by cases h) (by kernel_rfl) (fun _ h => by cases h) pictureConceals_row_tie rfl ⟨rfl, rfl⟩ (by kernel_rfl) rfl
    (fun f fn hf hfn => by
      obtain rfl : f = 8 := Option.some.inj ((show Tryz.prog.funcNamed "cutroom/cutroomlaw11.PictureConceals" = some 8 by kernel_rfl).symm.trans hf) |>.symm
      obtain rfl : fn = Tryz.f8 := (Option.some.inj (Tryz.func8.symm.trans hfn)).symm
      exact ⟨by kernel_rfl, fun j t ht => by
        have hm : t ∈ Tryz.f8.params.toList := by simpa using Array.mem_of_getElem? ht
        have hall : (Tryz.f8.params.toList.all fun u => !Tryz.prog.wantsStandIn u) = true := by kernel_rfl
        exact (show Tryz.prog.wantsStandIn t = false by simpa using List.all_eq_true.1 hall t hm)⟩)
    (by kernel_rfl)

end Go.Proofs.YtahomnplappbpaaGreatDoor.Lcn
