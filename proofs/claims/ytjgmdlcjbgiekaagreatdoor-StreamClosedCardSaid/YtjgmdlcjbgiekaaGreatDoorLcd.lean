/-
  StreamClosedCardSaid, proved; the tie is the given one.
-/
import Derived.Test.YtjgmdlcjbgiekaaGreatDoorLcdA
import Derived.Test.YtjgmdlcjbgiekaaGreatDoorLcdC
import Derived.Test.YtjgmdlcjbgiekaaGreatDoorLcdD
namespace Go.Proofs.YtjgmdlcjbgiekaaGreatDoor.Lcd
set_option linter.all false
open Go.ChangeShapes Go.WideShapes Go.ChangeAt Go.RowKit Pm Sc Lp Lg
theorem zeQ:Rows.StreamClosedSaid:=
 OpenClaim.holds_of_wide 6 Tryz.f6 rfl rfl rfl rfl rfl rfl rfl ⟨rfl,rfl,rfl,rfl,rfl⟩ rfl rfl rfl rfl rfl (by kernel_rfl) Tryz.func6 zu1
  (of_decide_eq_true (by kernel_rfl)) (by unfold Func.isWrapper;first|(rw [if_pos (by decide+kernel)];kernel_rfl)|(rw [if_neg (by decide+kernel)];exact ⟨rfl,rfl⟩))
  (fun os started H enc _=>zdO os started H enc)
theorem d1:Rows.streamClosedRow.wfByText (OpenSpec.ofChange Rows.streamClosedSpec)=true:=by kernel_rfl
theorem d2:Tryz.pinned.checked.prog.mainIs=some (true, "51e00d9e20a46bc58a5f9c18d362089ba620e69dbbee05919f5d863ebc9a1ed1".toList) := by kernel_rfl
theorem d3:true=Tryz.pinned.checked.prog.looks []:=by kernel_rfl
theorem d6:(Tryz.f6.params.toList.all fun u=> !Tryz.prog.wantsStandIn u)=true:=by kernel_rfl
theorem streamClosed_holds:Rows.StreamClosedCardSaid:=
 Claim7.holds_tied_plain_at .later [] [.data, .data] true (true, "51e00d9e20a46bc58a5f9c18d362089ba620e69dbbee05919f5d863ebc9a1ed1") true
  zeQ (fun _ h=>by cases h) d1 (fun _ h=>by cases h) streamClosed_row_tie rfl ⟨rfl,rfl⟩ d2 rfl
  (fun f fn hf hfn=>by
   obtain rfl : f = 6 := Option.some.inj ((show Tryz.prog.funcNamed "cutroom/cutroomlaw12.StreamClosed" = some 6 by kernel_rfl).symm.trans hf) |>.symm
   obtain rfl:fn=Tryz.f6:=(Option.some.inj (Tryz.func6.symm.trans hfn)).symm
   exact ⟨d3,fun j t ht=>by
    have hm:t∈Tryz.f6.params.toList:=by simpa using Array.mem_of_getElem? ht
    have hall:=d6
    exact (show Tryz.prog.wantsStandIn t=false by simpa using List.all_eq_true.1 hall t hm)⟩)
  goes
end Go.Proofs.YtjgmdlcjbgiekaaGreatDoor.Lcd
