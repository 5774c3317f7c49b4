/-
  DERIVED. GIVEN WITH THE SEED: THE CARDS: each row of YtnnkohejhnjflaaGreatDoorRows.lean that lists a variable, with what it lists TIED to the program's text (the seventh form; the later family's looks); each row that meets fmt, with fmt's text TOLD by the authors' own Lean function (tested against real Go, not proved from fmt's source: count such statements apart). THE CARD IS WHAT COUNTS. Prove the row's statement (the work); the ties are given (YtnnkohejhnjflaaGreatDoorTie.lean); close each card by the builder's one call (the guide's Derived/Test/ToyasCard.lean, 'card_holds'). Laid BY PROGRAM, IN A SANDBOX (cutbox-door.mjs). By AI agents, Wed Nov 11 2026. No macro, syntax, notation, axiom, sorry.
-/
import Derived.Test.YtnnkohejhnjflaaGreatDoorRows
import GoSem.ClaimSeven
namespace Go.Proofs.YtnnkohejhnjflaaGreatDoor
namespace Rows

/-- THE TIED CARD OF 'cutroomlaw12.StreamHeaders'. -/
def streamHeadersCard : Claim7 := { stood := { row := streamHeadersRow, standIns := [], harness := (true, "4a213b617bba76336fb7fde16cbf2349a72f392070f07921fc4bbf5401463a47"), looks := false }, kinds := [], alts := [], laidByText := true, laidKinds := [.data, .data], laidTests := true, laidLooks := .later }
def StreamHeadersCardSaid : Prop := Claim7.holds Tryz.pinned (.plain (OpenSpec.ofChange streamHeadersSpec)) streamHeadersCard

/-- THE TIED CARD OF 'cutroomlaw12.StreamReads'. -/
def streamReadsCard : Claim7 := { stood := { row := streamReadsRow, standIns := [], harness := (true, "4a213b617bba76336fb7fde16cbf2349a72f392070f07921fc4bbf5401463a47"), looks := false }, kinds := [], alts := [], laidByText := true, laidKinds := [.data, .data], laidTests := true, laidLooks := .later }
def StreamReadsCardSaid : Prop := Claim7.holds Tryz.pinned (.plain (OpenSpec.ofChange streamReadsSpec)) streamReadsCard

/-- THE TIED CARD OF 'cutroomlaw12.StreamParses'. -/
def streamParsesCard : Claim7 := { stood := { row := streamParsesRow, standIns := [], harness := (true, "4a213b617bba76336fb7fde16cbf2349a72f392070f07921fc4bbf5401463a47"), looks := false }, kinds := [], alts := [], laidByText := true, laidKinds := [.data, .data], laidTests := true, laidLooks := .later }
def StreamParsesCardSaid : Prop := Claim7.holds Tryz.pinned (.plain (OpenSpec.ofChange streamParsesSpec)) streamParsesCard

/-- THE TIED CARD OF 'cutroomlaw12.StreamFormats'. -/
def streamFormatsCard : Claim7 := { stood := { row := streamFormatsRow, standIns := [], harness := (true, "4a213b617bba76336fb7fde16cbf2349a72f392070f07921fc4bbf5401463a47"), looks := false }, kinds := [], alts := [], laidByText := true, laidKinds := [.data, .data], laidTests := true, laidLooks := .later }
def StreamFormatsCardSaid : Prop := Claim7.holds Tryz.pinned (.plain (OpenSpec.ofChange streamFormatsSpec)) streamFormatsCard

/-- THE TIED CARD OF 'cutroomlaw12.StreamStructure'. -/
def streamStructureCard : Claim7 := { stood := { row := streamStructureRow, standIns := [], harness := (true, "4a213b617bba76336fb7fde16cbf2349a72f392070f07921fc4bbf5401463a47"), looks := false }, kinds := [], alts := [], laidByText := true, laidKinds := [.data, .data], laidTests := true, laidLooks := .later }
def StreamStructureCardSaid : Prop := Claim7.holds Tryz.pinned (.plain (OpenSpec.ofChange streamStructureSpec)) streamStructureCard

/-- THE SECOND FORM's CARD OF 'cutroomlaw12.StreamHeaders'. -/
def streamHeadersUptoCard : Claim7 := { stood := { row := streamHeadersUptoRow, standIns := [], harness := (true, "4a213b617bba76336fb7fde16cbf2349a72f392070f07921fc4bbf5401463a47"), looks := false }, kinds := [], alts := [], laidByText := true, laidKinds := [.data, .data], laidTests := true, laidLooks := .later }
def StreamHeadersUptoCardSaid : Prop := Claim7.holds Tryz.pinned (.plain (OpenSpec.upto streamHeadersSpec)) streamHeadersUptoCard

/-- THE SECOND FORM's CARD OF 'cutroomlaw12.StreamReads'. -/
def streamReadsUptoCard : Claim7 := { stood := { row := streamReadsUptoRow, standIns := [], harness := (true, "4a213b617bba76336fb7fde16cbf2349a72f392070f07921fc4bbf5401463a47"), looks := false }, kinds := [], alts := [], laidByText := true, laidKinds := [.data, .data], laidTests := true, laidLooks := .later }
def StreamReadsUptoCardSaid : Prop := Claim7.holds Tryz.pinned (.plain (OpenSpec.upto streamReadsSpec)) streamReadsUptoCard

/-- THE SECOND FORM's CARD OF 'cutroomlaw12.StreamParses'. -/
def streamParsesUptoCard : Claim7 := { stood := { row := streamParsesUptoRow, standIns := [], harness := (true, "4a213b617bba76336fb7fde16cbf2349a72f392070f07921fc4bbf5401463a47"), looks := false }, kinds := [], alts := [], laidByText := true, laidKinds := [.data, .data], laidTests := true, laidLooks := .later }
def StreamParsesUptoCardSaid : Prop := Claim7.holds Tryz.pinned (.plain (OpenSpec.upto streamParsesSpec)) streamParsesUptoCard

/-- THE SECOND FORM's CARD OF 'cutroomlaw12.StreamFormats'. -/
def streamFormatsUptoCard : Claim7 := { stood := { row := streamFormatsUptoRow, standIns := [], harness := (true, "4a213b617bba76336fb7fde16cbf2349a72f392070f07921fc4bbf5401463a47"), looks := false }, kinds := [], alts := [], laidByText := true, laidKinds := [.data, .data], laidTests := true, laidLooks := .later }
def StreamFormatsUptoCardSaid : Prop := Claim7.holds Tryz.pinned (.plain (OpenSpec.upto streamFormatsSpec)) streamFormatsUptoCard

/-- THE SECOND FORM's CARD OF 'cutroomlaw12.StreamStructure'. -/
def streamStructureUptoCard : Claim7 := { stood := { row := streamStructureUptoRow, standIns := [], harness := (true, "4a213b617bba76336fb7fde16cbf2349a72f392070f07921fc4bbf5401463a47"), looks := false }, kinds := [], alts := [], laidByText := true, laidKinds := [.data, .data], laidTests := true, laidLooks := .later }
def StreamStructureUptoCardSaid : Prop := Claim7.holds Tryz.pinned (.plain (OpenSpec.upto streamStructureSpec)) streamStructureUptoCard
end Rows
end Go.Proofs.YtnnkohejhnjflaaGreatDoor
