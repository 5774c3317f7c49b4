/-
  DERIVED. GIVEN WITH THE SEED: THE CARDS: each row of YtdajpjenhcobkaaGreatDoorRows.lean that lists a variable, with what it lists TIED to the program's text (the seventh form; the later family's looks); each row that meets fmt, with fmt's text TOLD by the authors' own Lean function (tested against real Go, not proved from fmt's source: count such statements apart). THE CARD IS WHAT COUNTS. Prove the row's statement (the work); the ties are given (YtdajpjenhcobkaaGreatDoorTie.lean); close each card by the builder's one call (the guide's Derived/Test/ToyasCard.lean, 'card_holds'). Laid BY PROGRAM, IN A SANDBOX (cutbox-door.mjs). By AI agents, Wed Nov 11 2026. No macro, syntax, notation, axiom, sorry.
-/
import Derived.Test.YtdajpjenhcobkaaGreatDoorRows
import GoSem.ClaimSeven
namespace Go.Proofs.YtdajpjenhcobkaaGreatDoor
namespace Rows

/-- THE TIED CARD OF 'cutroomlaw12.StreamFrames'. -/
def streamFramesCard : Claim7 := { stood := { row := streamFramesRow, standIns := [], harness := (true, "2991fdf7824a192ddf0e2f399383eca9a5a6ace43ef0cb0f38358d207ccc5b4e"), looks := true }, kinds := [], alts := [], laidByText := true, laidKinds := [.data, .data], laidTests := true, laidLooks := .later }
def StreamFramesCardSaid : Prop := Claim7.holds Tryz.pinned (.plain (OpenSpec.ofChange streamFramesSpec)) streamFramesCard

/-- THE TIED CARD OF 'cutroomlaw12.StreamDecodes'. -/
def streamDecodesCard : Claim7 := { stood := { row := streamDecodesRow, standIns := [], harness := (true, "2991fdf7824a192ddf0e2f399383eca9a5a6ace43ef0cb0f38358d207ccc5b4e"), looks := true }, kinds := [], alts := [], laidByText := true, laidKinds := [.data, .data], laidTests := true, laidLooks := .later }
def StreamDecodesCardSaid : Prop := Claim7.holds Tryz.pinned (.plain (OpenSpec.ofChange streamDecodesSpec)) streamDecodesCard

/-- THE SECOND FORM's CARD OF 'cutroomlaw12.StreamFrames'. -/
def streamFramesUptoCard : Claim7 := { stood := { row := streamFramesUptoRow, standIns := [], harness := (true, "2991fdf7824a192ddf0e2f399383eca9a5a6ace43ef0cb0f38358d207ccc5b4e"), looks := true }, kinds := [], alts := [], laidByText := true, laidKinds := [.data, .data], laidTests := true, laidLooks := .later }
def StreamFramesUptoCardSaid : Prop := Claim7.holds Tryz.pinned (.plain (OpenSpec.upto streamFramesSpec)) streamFramesUptoCard

/-- THE SECOND FORM's CARD OF 'cutroomlaw12.StreamDecodes'. -/
def streamDecodesUptoCard : Claim7 := { stood := { row := streamDecodesUptoRow, standIns := [], harness := (true, "2991fdf7824a192ddf0e2f399383eca9a5a6ace43ef0cb0f38358d207ccc5b4e"), looks := true }, kinds := [], alts := [], laidByText := true, laidKinds := [.data, .data], laidTests := true, laidLooks := .later }
def StreamDecodesUptoCardSaid : Prop := Claim7.holds Tryz.pinned (.plain (OpenSpec.upto streamDecodesSpec)) streamDecodesUptoCard
end Rows
end Go.Proofs.YtdajpjenhcobkaaGreatDoor
