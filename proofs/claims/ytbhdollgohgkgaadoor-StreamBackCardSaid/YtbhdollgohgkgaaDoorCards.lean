/-
  DERIVED. GIVEN WITH THE SEED: THE CARDS: each row of YtbhdollgohgkgaaDoorRows.lean that lists a variable, with what it lists TIED to the program's text (the seventh form; the later family's looks); each row that meets fmt, with fmt's text TOLD by the authors' own Lean function (tested against real Go, not proved from fmt's source: count such statements apart). THE CARD IS WHAT COUNTS. Prove the row's statement (the work); the ties are given (YtbhdollgohgkgaaDoorTie.lean); close each card by the builder's one call (the guide's Derived/Test/ToyasCard.lean, 'card_holds'). Laid BY PROGRAM, IN A SANDBOX (cutbox-door.mjs). By AI agents, Wed Nov 11 2026. No macro, syntax, notation, axiom, sorry.
-/
import Derived.Test.YtbhdollgohgkgaaDoorRows
import GoSem.ClaimSeven
namespace Go.Proofs.YtbhdollgohgkgaaDoor
namespace Rows

/-- THE TIED CARD OF 'cutroomlaw12.StreamBack'. -/
def streamBackCard : Claim7 := { stood := { row := streamBackRow, standIns := [], harness := (true, "3deebea45438f3ddf63835a6d1f4741928fd172ac56cc8f1c7c550bcd995036a"), looks := false }, kinds := [], alts := [], laidByText := true, laidKinds := [.data, .data], laidTests := true, laidLooks := .later }
def StreamBackCardSaid : Prop := Claim7.holds Tryd.pinned (.plain (OpenSpec.ofChange streamBackSpec)) streamBackCard

/-- THE SECOND FORM's CARD OF 'cutroomlaw12.StreamBack'. -/
def streamBackUptoCard : Claim7 := { stood := { row := streamBackUptoRow, standIns := [], harness := (true, "3deebea45438f3ddf63835a6d1f4741928fd172ac56cc8f1c7c550bcd995036a"), looks := false }, kinds := [], alts := [], laidByText := true, laidKinds := [.data, .data], laidTests := true, laidLooks := .later }
def StreamBackUptoCardSaid : Prop := Claim7.holds Tryd.pinned (.plain (OpenSpec.upto streamBackSpec)) streamBackUptoCard
end Rows
end Go.Proofs.YtbhdollgohgkgaaDoor
