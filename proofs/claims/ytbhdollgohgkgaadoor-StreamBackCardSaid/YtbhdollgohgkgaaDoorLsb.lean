/-
  THE STATEMENT StreamBackCardSaid, PROVED (from the contract 'law_back'); the tie of the listed variables is the given one.
-/
import Derived.Test.YtbhdollgohgkgaaDoorLsbA
import Derived.Test.YtbhdollgohgkgaaDoorLsbC
import Derived.Test.YtbhdollgohgkgaaDoorLsbD
import Derived.Test.YtbhdollgohgkgaaDoorB04
import Derived.Test.YtbhdollgohgkgaaDoorCards
import Derived.Test.YtbhdollgohgkgaaDoorTie
import Derived.SevenTiedAt
namespace Go.Proofs.YtbhdollgohgkgaaDoor.Lsb
set_option linter.all false
set_option linter.unusedVariables false
set_option linter.unusedSimpArgs false
open Go.ChangeShapes Go.WideShapes Go.ChangeAt Go.RowKit Pm Sc Lp Lg

theorem streamBack_row : Rows.StreamBackSaid :=
  OpenClaim.holds_of_wide 3 Tryd.f3 rfl rfl rfl rfl rfl rfl rfl ⟨rfl, rfl, rfl, rfl, rfl⟩ rfl rfl rfl rfl rfl (by kernel_rfl) Tryd.func3 closed
    (of_decide_eq_true (by kernel_rfl)) (by unfold Func.isWrapper; first | (rw [if_pos (by decide +kernel)]; kernel_rfl) | (rw [if_neg (by decide +kernel)]; exact ⟨rfl, rfl⟩))
    (fun os started H enc _ => streamBack_lifted os started H enc)

theorem d1 : Rows.streamBackRow.wfByText (OpenSpec.ofChange Rows.streamBackSpec) = true := by kernel_rfl
theorem d2 : Tryd.pinned.checked.prog.mainIs = some (true, "3deebea45438f3ddf63835a6d1f4741928fd172ac56cc8f1c7c550bcd995036a".toList) := by kernel_rfl
theorem d3 : false = Tryd.pinned.checked.prog.looks [] := by kernel_rfl
theorem d6 : (Tryd.f3.params.toList.all fun u => !Tryd.prog.wantsStandIn u) = true := by kernel_rfl
theorem streamBack_holds : Rows.StreamBackCardSaid :=
  Claim7.holds_tied_plain_at .later [] [.data, .data] true (true, "3deebea45438f3ddf63835a6d1f4741928fd172ac56cc8f1c7c550bcd995036a") false
    streamBack_row (fun _ h => by cases h) d1 (fun _ h => by cases h) streamBack_row_tie rfl ⟨rfl, rfl⟩ d2 rfl
    (fun f fn hf hfn => by
      obtain rfl : f = 3 := Option.some.inj ((show Tryd.prog.funcNamed "cutroom/cutroomlaw12.StreamBack" = some 3 by kernel_rfl).symm.trans hf) |>.symm
      obtain rfl : fn = Tryd.f3 := (Option.some.inj (Tryd.func3.symm.trans hfn)).symm
      exact ⟨d3, fun j t ht => by
        have hm : t ∈ Tryd.f3.params.toList := by simpa using Array.mem_of_getElem? ht
        have hall := d6
        exact (show Tryd.prog.wantsStandIn t = false by simpa using List.all_eq_true.1 hall t hm)⟩)
    goes

end Go.Proofs.YtbhdollgohgkgaaDoor.Lsb
