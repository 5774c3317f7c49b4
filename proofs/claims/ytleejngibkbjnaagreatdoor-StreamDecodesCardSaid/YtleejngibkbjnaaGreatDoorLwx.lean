/-
  THE STATEMENT StreamDecodesCardSaid, PROVED (from the contract 'law_decodes'); the tie of the listed variables is the given one.
-/
import Derived.Test.YtleejngibkbjnaaGreatDoorLwxA
import Derived.Test.YtleejngibkbjnaaGreatDoorLwxC
import Derived.Test.YtleejngibkbjnaaGreatDoorLwxD
import Derived.Test.YtleejngibkbjnaaGreatDoorW03
import Derived.Test.YtleejngibkbjnaaGreatDoorCards
import Derived.Test.YtleejngibkbjnaaGreatDoorTie
import Derived.SevenTiedAt
namespace Go.Proofs.YtleejngibkbjnaaGreatDoor.Lwx
set_option linter.all false
set_option linter.unusedVariables false
set_option linter.unusedSimpArgs false
open Go.ChangeShapes Go.WideShapes Go.ChangeAt Go.RowKit Pm Sc Lp Lg

theorem zfw : Rows.StreamDecodesSaid :=
  OpenClaim.holds_of_wide 3 Tryz.f3 rfl rfl rfl rfl rfl rfl rfl ⟨rfl, rfl, rfl, rfl, rfl⟩ rfl rfl rfl rfl rfl (by kernel_rfl) Tryz.func3 zyZ
    (of_decide_eq_true (by kernel_rfl)) (by unfold Func.isWrapper; first | (rw [if_pos (by decide +kernel)]; kernel_rfl) | (rw [if_neg (by decide +kernel)]; exact ⟨rfl, rfl⟩))
    (fun os started H enc _ => zd8 os started H enc)

theorem d1 : Rows.streamDecodesRow.wfByText (OpenSpec.ofChange Rows.streamDecodesSpec) = true := by kernel_rfl
theorem d2 : Tryz.pinned.checked.prog.mainIs = some (true, "145b1478db564f2c304c406e069a461e46d6dec97d46ff1b74101988fee19160".toList) := by kernel_rfl
theorem d3 : true = Tryz.pinned.checked.prog.looks [] := by kernel_rfl
theorem d6 : (Tryz.f3.params.toList.all fun u => !Tryz.prog.wantsStandIn u) = true := by kernel_rfl
theorem streamDecodes_holds : Rows.StreamDecodesCardSaid :=
  Claim7.holds_tied_plain_at .later [] [.data, .data] true (true, "145b1478db564f2c304c406e069a461e46d6dec97d46ff1b74101988fee19160") true
    zfw (fun _ h => by cases h) d1 (fun _ h => by cases h) streamDecodes_row_tie rfl ⟨rfl, rfl⟩ d2 rfl
    (fun f fn hf hfn => by
      obtain rfl : f = 3 := Option.some.inj ((show Tryz.prog.funcNamed "cutroom/cutroomlaw12.StreamDecodes" = some 3 by kernel_rfl).symm.trans hf) |>.symm
      obtain rfl : fn = Tryz.f3 := (Option.some.inj (Tryz.func3.symm.trans hfn)).symm
      exact ⟨d3, fun j t ht => by
        have hm : t ∈ Tryz.f3.params.toList := by simpa using Array.mem_of_getElem? ht
        have hall := d6
        exact (show Tryz.prog.wantsStandIn t = false by simpa using List.all_eq_true.1 hall t hm)⟩)
    goes

end Go.Proofs.YtleejngibkbjnaaGreatDoor.Lwx
