/-
  DERIVED. GIVEN WITH THE SEED: THE CARDS: each row of YtpjlfoficnpfoaaGreatDoorRows.lean that lists a variable, with what it lists TIED to the program's text (the seventh form; the later family's looks); each row that meets fmt, with fmt's text TOLD by the authors' own Lean function (tested against real Go, not proved from fmt's source: count such statements apart). THE CARD IS WHAT COUNTS. Prove the row's statement (the work); the ties are given (YtpjlfoficnpfoaaGreatDoorTie.lean); close each card by the builder's one call (the guide's Derived/Test/ToyasCard.lean, 'card_holds'). Laid BY PROGRAM, IN A SANDBOX (cutbox-door.mjs). By AI agents, Wed Nov 11 2026. No macro, syntax, notation, axiom, sorry.
-/
import Derived.Test.YtpjlfoficnpfoaaGreatDoorRows
import GoSem.ClaimSeven
namespace Go.Proofs.YtpjlfoficnpfoaaGreatDoor
namespace Rows

/-- THE TIED CARD OF 'cutroomlaw12.StreamWell'. -/
def streamWellCard : Claim7 := { stood := { row := streamWellRow, standIns := [], harness := (true, "fae52af472d1364416375417c8b95deb5796ad133e2d12b069966f2e0a113dbf"), looks := true }, kinds := [], alts := [], laidByText := true, laidKinds := [.data, .data], laidTests := true, laidLooks := .later }
def StreamWellCardSaid : Prop := Claim7.holds Tryz.pinned (.plain (OpenSpec.ofChange streamWellSpec)) streamWellCard

/-- THE TIED CARD OF 'cutroomlaw12.StreamFrames'. -/
def streamFramesCard : Claim7 := { stood := { row := streamFramesRow, standIns := [], harness := (true, "fae52af472d1364416375417c8b95deb5796ad133e2d12b069966f2e0a113dbf"), looks := true }, kinds := [], alts := [], laidByText := true, laidKinds := [.data, .data], laidTests := true, laidLooks := .later }
def StreamFramesCardSaid : Prop := Claim7.holds Tryz.pinned (.plain (OpenSpec.ofChange streamFramesSpec)) streamFramesCard

/-- THE TIED CARD OF 'cutroomlaw12.StreamDecodes'. -/
def streamDecodesCard : Claim7 := { stood := { row := streamDecodesRow, standIns := [], harness := (true, "fae52af472d1364416375417c8b95deb5796ad133e2d12b069966f2e0a113dbf"), looks := true }, kinds := [], alts := [], laidByText := true, laidKinds := [.data, .data], laidTests := true, laidLooks := .later }
def StreamDecodesCardSaid : Prop := Claim7.holds Tryz.pinned (.plain (OpenSpec.ofChange streamDecodesSpec)) streamDecodesCard

/-- THE TIED CARD OF 'cutroomlaw12.StreamShowsAll'. -/
def streamShowsAllCard : Claim7 := { stood := { row := streamShowsAllRow, standIns := [], harness := (true, "fae52af472d1364416375417c8b95deb5796ad133e2d12b069966f2e0a113dbf"), looks := true }, kinds := [], alts := [], laidByText := true, laidKinds := [.data, .data], laidTests := true, laidLooks := .later }
def StreamShowsAllCardSaid : Prop := Claim7.holds Tryz.pinned (.plain (OpenSpec.ofChange streamShowsAllSpec)) streamShowsAllCard

/-- THE TIED CARD OF 'cutroomlaw12.StreamDisplays'. -/
def streamDisplaysCard : Claim7 := { stood := { row := streamDisplaysRow, standIns := [], harness := (true, "fae52af472d1364416375417c8b95deb5796ad133e2d12b069966f2e0a113dbf"), looks := true }, kinds := [], alts := [], laidByText := true, laidKinds := [.data, .data], laidTests := true, laidLooks := .later }
def StreamDisplaysCardSaid : Prop := Claim7.holds Tryz.pinned (.plain (OpenSpec.ofChange streamDisplaysSpec)) streamDisplaysCard

/-- THE SECOND FORM's CARD OF 'cutroomlaw12.StreamWell'. -/
def streamWellUptoCard : Claim7 := { stood := { row := streamWellUptoRow, standIns := [], harness := (true, "fae52af472d1364416375417c8b95deb5796ad133e2d12b069966f2e0a113dbf"), looks := true }, kinds := [], alts := [], laidByText := true, laidKinds := [.data, .data], laidTests := true, laidLooks := .later }
def StreamWellUptoCardSaid : Prop := Claim7.holds Tryz.pinned (.plain (OpenSpec.upto streamWellSpec)) streamWellUptoCard

/-- THE SECOND FORM's CARD OF 'cutroomlaw12.StreamFrames'. -/
def streamFramesUptoCard : Claim7 := { stood := { row := streamFramesUptoRow, standIns := [], harness := (true, "fae52af472d1364416375417c8b95deb5796ad133e2d12b069966f2e0a113dbf"), looks := true }, kinds := [], alts := [], laidByText := true, laidKinds := [.data, .data], laidTests := true, laidLooks := .later }
def StreamFramesUptoCardSaid : Prop := Claim7.holds Tryz.pinned (.plain (OpenSpec.upto streamFramesSpec)) streamFramesUptoCard

/-- THE SECOND FORM's CARD OF 'cutroomlaw12.StreamDecodes'. -/
def streamDecodesUptoCard : Claim7 := { stood := { row := streamDecodesUptoRow, standIns := [], harness := (true, "fae52af472d1364416375417c8b95deb5796ad133e2d12b069966f2e0a113dbf"), looks := true }, kinds := [], alts := [], laidByText := true, laidKinds := [.data, .data], laidTests := true, laidLooks := .later }
def StreamDecodesUptoCardSaid : Prop := Claim7.holds Tryz.pinned (.plain (OpenSpec.upto streamDecodesSpec)) streamDecodesUptoCard

/-- THE SECOND FORM's CARD OF 'cutroomlaw12.StreamShowsAll'. -/
def streamShowsAllUptoCard : Claim7 := { stood := { row := streamShowsAllUptoRow, standIns := [], harness := (true, "fae52af472d1364416375417c8b95deb5796ad133e2d12b069966f2e0a113dbf"), looks := true }, kinds := [], alts := [], laidByText := true, laidKinds := [.data, .data], laidTests := true, laidLooks := .later }
def StreamShowsAllUptoCardSaid : Prop := Claim7.holds Tryz.pinned (.plain (OpenSpec.upto streamShowsAllSpec)) streamShowsAllUptoCard

/-- THE SECOND FORM's CARD OF 'cutroomlaw12.StreamDisplays'. -/
def streamDisplaysUptoCard : Claim7 := { stood := { row := streamDisplaysUptoRow, standIns := [], harness := (true, "fae52af472d1364416375417c8b95deb5796ad133e2d12b069966f2e0a113dbf"), looks := true }, kinds := [], alts := [], laidByText := true, laidKinds := [.data, .data], laidTests := true, laidLooks := .later }
def StreamDisplaysUptoCardSaid : Prop := Claim7.holds Tryz.pinned (.plain (OpenSpec.upto streamDisplaysSpec)) streamDisplaysUptoCard
end Rows
end Go.Proofs.YtpjlfoficnpfoaaGreatDoor
