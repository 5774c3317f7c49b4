/-
  DERIVED. GIVEN WITH THE SEED: THE CARDS: each row of YtleejngibkbjnaaGreatDoorRows.lean that lists a variable, with what it lists TIED to the program's text (the seventh form; the later family's looks); each row that meets fmt, with fmt's text TOLD by the authors' own Lean function (tested against real Go, not proved from fmt's source: count such statements apart). THE CARD IS WHAT COUNTS. Prove the row's statement (the work); the ties are given (YtleejngibkbjnaaGreatDoorTie.lean); close each card by the builder's one call (the guide's Derived/Test/ToyasCard.lean, 'card_holds'). Laid BY PROGRAM, IN A SANDBOX (cutbox-door.mjs). By AI agents, Wed Nov 11 2026. No macro, syntax, notation, axiom, sorry.
-/
import Derived.Test.YtleejngibkbjnaaGreatDoorRows
import GoSem.ClaimSeven
namespace Go.Proofs.YtleejngibkbjnaaGreatDoor
namespace Rows

/-- THE TIED CARD OF 'cutroomlaw12.StreamDecodes'. -/
def streamDecodesCard : Claim7 := { stood := { row := streamDecodesRow, standIns := [], harness := (true, "145b1478db564f2c304c406e069a461e46d6dec97d46ff1b74101988fee19160"), looks := true }, kinds := [], alts := [], laidByText := true, laidKinds := [.data, .data], laidTests := true, laidLooks := .later }
def StreamDecodesCardSaid : Prop := Claim7.holds Tryz.pinned (.plain (OpenSpec.ofChange streamDecodesSpec)) streamDecodesCard

/-- THE SECOND FORM's CARD OF 'cutroomlaw12.StreamDecodes'. -/
def streamDecodesUptoCard : Claim7 := { stood := { row := streamDecodesUptoRow, standIns := [], harness := (true, "145b1478db564f2c304c406e069a461e46d6dec97d46ff1b74101988fee19160"), looks := true }, kinds := [], alts := [], laidByText := true, laidKinds := [.data, .data], laidTests := true, laidLooks := .later }
def StreamDecodesUptoCardSaid : Prop := Claim7.holds Tryz.pinned (.plain (OpenSpec.upto streamDecodesSpec)) streamDecodesUptoCard
end Rows
end Go.Proofs.YtleejngibkbjnaaGreatDoor
