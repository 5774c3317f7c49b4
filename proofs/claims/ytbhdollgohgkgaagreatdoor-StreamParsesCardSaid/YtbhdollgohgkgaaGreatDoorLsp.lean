/-
  THE STATEMENT StreamParsesCardSaid, PROVED (from the contract 'law_parses'); the tie of the listed variables is the given one.
-/
import Derived.Test.YtbhdollgohgkgaaGreatDoorLspA
import Derived.Test.YtbhdollgohgkgaaGreatDoorLspC
import Derived.Test.YtbhdollgohgkgaaGreatDoorLspD
import Derived.Test.YtbhdollgohgkgaaGreatDoorA04
import Derived.Test.YtbhdollgohgkgaaGreatDoorCards
import Derived.Test.YtbhdollgohgkgaaGreatDoorTie
import Derived.SevenTiedAt
namespace Go.Proofs.YtbhdollgohgkgaaGreatDoor.Lsp
set_option linter.all false
set_option linter.unusedVariables false
set_option linter.unusedSimpArgs false
open Go.ChangeShapes Go.WideShapes Go.ChangeAt Go.RowKit Pm Sc Lp Lg

theorem streamParses_row : Rows.StreamParsesSaid :=
  OpenClaim.holds_of_wide 3 Tryz.f3 rfl rfl rfl rfl rfl rfl rfl ⟨rfl, rfl, rfl, rfl, rfl⟩ rfl rfl rfl rfl rfl (by kernel_rfl) Tryz.func3 closed
    (of_decide_eq_true (by kernel_rfl)) (by unfold Func.isWrapper; first | (rw [if_pos (by decide +kernel)]; kernel_rfl) | (rw [if_neg (by decide +kernel)]; exact ⟨rfl, rfl⟩))
    (fun os started H enc _ => streamParses_lifted os started H enc)

theorem d1 : Rows.streamParsesRow.wfByText (OpenSpec.ofChange Rows.streamParsesSpec) = true := by kernel_rfl
theorem d2 : Tryz.pinned.checked.prog.mainIs = some (true, "3701ac760c534fb3480187ed73d2f24215da6088f64bdbb3e53f7a8b93ef338b".toList) := by kernel_rfl
theorem d3 : false = Tryz.pinned.checked.prog.looks [] := by kernel_rfl
theorem d6 : (Tryz.f3.params.toList.all fun u => !Tryz.prog.wantsStandIn u) = true := by kernel_rfl
theorem streamParses_holds : Rows.StreamParsesCardSaid :=
  Claim7.holds_tied_plain_at .later [] [.data, .data] true (true, "3701ac760c534fb3480187ed73d2f24215da6088f64bdbb3e53f7a8b93ef338b") false
    streamParses_row (fun _ h => by cases h) d1 (fun _ h => by cases h) streamParses_row_tie rfl ⟨rfl, rfl⟩ d2 rfl
    (fun f fn hf hfn => by
      obtain rfl : f = 3 := Option.some.inj ((show Tryz.prog.funcNamed "cutroom/cutroomlaw12.StreamParses" = some 3 by kernel_rfl).symm.trans hf) |>.symm
      obtain rfl : fn = Tryz.f3 := (Option.some.inj (Tryz.func3.symm.trans hfn)).symm
      exact ⟨d3, fun j t ht => by
        have hm : t ∈ Tryz.f3.params.toList := by simpa using Array.mem_of_getElem? ht
        have hall := d6
        exact (show Tryz.prog.wantsStandIn t = false by simpa using List.all_eq_true.1 hall t hm)⟩)
    goes

end Go.Proofs.YtbhdollgohgkgaaGreatDoor.Lsp
