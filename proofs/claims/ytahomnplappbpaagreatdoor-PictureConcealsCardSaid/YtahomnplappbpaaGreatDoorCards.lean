/-
  DERIVED. GIVEN WITH THE SEED: THE CARDS: each row of YtahomnplappbpaaGreatDoorRows.lean that lists a variable, with what it lists TIED to the program's text (the seventh form; the later family's looks); each row that meets fmt, with fmt's text TOLD by the authors' own Lean function (tested against real Go, not proved from fmt's source: count such statements apart). THE CARD IS WHAT COUNTS. Prove the row's statement (the work); the ties are given (YtahomnplappbpaaGreatDoorTie.lean); close each card by the builder's one call (the guide's Derived/Test/ToyasCard.lean, 'card_holds'). Laid BY PROGRAM, IN A SANDBOX (cutbox-door.mjs). By AI agents, Wed Nov 11 2026. No macro, syntax, notation, axiom, sorry.
-/
import Derived.Test.YtahomnplappbpaaGreatDoorRows
import GoSem.ClaimSeven
namespace Go.Proofs.YtahomnplappbpaaGreatDoor
namespace Rows

/-- THE TIED CARD OF 'cutroomlaw12.StreamStructure'. -/
def streamStructureCard : Claim7 := { stood := { row := streamStructureRow, standIns := [], harness := (true, "f0f325d866fe83e887c666016ae5342c1d6a645d7283e444ce983afc131d1444"), looks := true }, kinds := [], alts := [], laidByText := true, laidKinds := [.data, .data], laidTests := true, laidLooks := .later }
def StreamStructureCardSaid : Prop := Claim7.holds Tryz.pinned (.plain (OpenSpec.ofChange streamStructureSpec)) streamStructureCard

/-- THE TIED CARD OF 'cutroomlaw10.MacroblockReconstructs'. -/
def macroblockReconstructsCard : Claim7 := { stood := { row := macroblockReconstructsRow, standIns := [], harness := (true, "f0f325d866fe83e887c666016ae5342c1d6a645d7283e444ce983afc131d1444"), looks := true }, kinds := [], alts := [], laidByText := true, laidKinds := [.data], laidTests := true, laidLooks := .later }
def MacroblockReconstructsCardSaid : Prop := Claim7.holds Tryz.pinned (.plain (OpenSpec.ofChange macroblockReconstructsSpec)) macroblockReconstructsCard

/-- THE TIED CARD OF 'cutroomlaw10.MacroblockAlone'. -/
def macroblockAloneCard : Claim7 := { stood := { row := macroblockAloneRow, standIns := [], harness := (true, "f0f325d866fe83e887c666016ae5342c1d6a645d7283e444ce983afc131d1444"), looks := true }, kinds := [], alts := [], laidByText := true, laidKinds := [.data], laidTests := true, laidLooks := .later }
def MacroblockAloneCardSaid : Prop := Claim7.holds Tryz.pinned (.plain (OpenSpec.ofChange macroblockAloneSpec)) macroblockAloneCard

/-- THE TIED CARD OF 'cutroomlaw10.MacroblockSkips'. -/
def macroblockSkipsCard : Claim7 := { stood := { row := macroblockSkipsRow, standIns := [], harness := (true, "f0f325d866fe83e887c666016ae5342c1d6a645d7283e444ce983afc131d1444"), looks := true }, kinds := [], alts := [], laidByText := true, laidKinds := [.data], laidTests := true, laidLooks := .later }
def MacroblockSkipsCardSaid : Prop := Claim7.holds Tryz.pinned (.plain (OpenSpec.ofChange macroblockSkipsSpec)) macroblockSkipsCard

/-- THE TIED CARD OF 'cutroomlaw10.MacroblockClose'. -/
def macroblockCloseCard : Claim7 := { stood := { row := macroblockCloseRow, standIns := [], harness := (true, "f0f325d866fe83e887c666016ae5342c1d6a645d7283e444ce983afc131d1444"), looks := true }, kinds := [], alts := [], laidByText := true, laidKinds := [.data], laidTests := true, laidLooks := .later }
def MacroblockCloseCardSaid : Prop := Claim7.holds Tryz.pinned (.plain (OpenSpec.ofChange macroblockCloseSpec)) macroblockCloseCard

/-- THE TIED CARD OF 'cutroomlaw11.PictureConceals'. -/
def pictureConcealsCard : Claim7 := { stood := { row := pictureConcealsRow, standIns := [], harness := (true, "f0f325d866fe83e887c666016ae5342c1d6a645d7283e444ce983afc131d1444"), looks := true }, kinds := [], alts := [], laidByText := true, laidKinds := [.data], laidTests := true, laidLooks := .later }
def PictureConcealsCardSaid : Prop := Claim7.holds Tryz.pinned (.plain (OpenSpec.ofChange pictureConcealsSpec)) pictureConcealsCard

/-- THE SECOND FORM's CARD OF 'cutroomlaw12.StreamStructure'. -/
def streamStructureUptoCard : Claim7 := { stood := { row := streamStructureUptoRow, standIns := [], harness := (true, "f0f325d866fe83e887c666016ae5342c1d6a645d7283e444ce983afc131d1444"), looks := true }, kinds := [], alts := [], laidByText := true, laidKinds := [.data, .data], laidTests := true, laidLooks := .later }
def StreamStructureUptoCardSaid : Prop := Claim7.holds Tryz.pinned (.plain (OpenSpec.upto streamStructureSpec)) streamStructureUptoCard

/-- THE SECOND FORM's CARD OF 'cutroomlaw10.MacroblockReconstructs'. -/
def macroblockReconstructsUptoCard : Claim7 := { stood := { row := macroblockReconstructsUptoRow, standIns := [], harness := (true, "f0f325d866fe83e887c666016ae5342c1d6a645d7283e444ce983afc131d1444"), looks := true }, kinds := [], alts := [], laidByText := true, laidKinds := [.data], laidTests := true, laidLooks := .later }
def MacroblockReconstructsUptoCardSaid : Prop := Claim7.holds Tryz.pinned (.plain (OpenSpec.upto macroblockReconstructsSpec)) macroblockReconstructsUptoCard

/-- THE SECOND FORM's CARD OF 'cutroomlaw10.MacroblockAlone'. -/
def macroblockAloneUptoCard : Claim7 := { stood := { row := macroblockAloneUptoRow, standIns := [], harness := (true, "f0f325d866fe83e887c666016ae5342c1d6a645d7283e444ce983afc131d1444"), looks := true }, kinds := [], alts := [], laidByText := true, laidKinds := [.data], laidTests := true, laidLooks := .later }
def MacroblockAloneUptoCardSaid : Prop := Claim7.holds Tryz.pinned (.plain (OpenSpec.upto macroblockAloneSpec)) macroblockAloneUptoCard

/-- THE SECOND FORM's CARD OF 'cutroomlaw10.MacroblockSkips'. -/
def macroblockSkipsUptoCard : Claim7 := { stood := { row := macroblockSkipsUptoRow, standIns := [], harness := (true, "f0f325d866fe83e887c666016ae5342c1d6a645d7283e444ce983afc131d1444"), looks := true }, kinds := [], alts := [], laidByText := true, laidKinds := [.data], laidTests := true, laidLooks := .later }
def MacroblockSkipsUptoCardSaid : Prop := Claim7.holds Tryz.pinned (.plain (OpenSpec.upto macroblockSkipsSpec)) macroblockSkipsUptoCard

/-- THE SECOND FORM's CARD OF 'cutroomlaw10.MacroblockClose'. -/
def macroblockCloseUptoCard : Claim7 := { stood := { row := macroblockCloseUptoRow, standIns := [], harness := (true, "f0f325d866fe83e887c666016ae5342c1d6a645d7283e444ce983afc131d1444"), looks := true }, kinds := [], alts := [], laidByText := true, laidKinds := [.data], laidTests := true, laidLooks := .later }
def MacroblockCloseUptoCardSaid : Prop := Claim7.holds Tryz.pinned (.plain (OpenSpec.upto macroblockCloseSpec)) macroblockCloseUptoCard

/-- THE SECOND FORM's CARD OF 'cutroomlaw11.PictureConceals'. -/
def pictureConcealsUptoCard : Claim7 := { stood := { row := pictureConcealsUptoRow, standIns := [], harness := (true, "f0f325d866fe83e887c666016ae5342c1d6a645d7283e444ce983afc131d1444"), looks := true }, kinds := [], alts := [], laidByText := true, laidKinds := [.data], laidTests := true, laidLooks := .later }
def PictureConcealsUptoCardSaid : Prop := Claim7.holds Tryz.pinned (.plain (OpenSpec.upto pictureConcealsSpec)) pictureConcealsUptoCard
end Rows
end Go.Proofs.YtahomnplappbpaaGreatDoor
