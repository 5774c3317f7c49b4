/-
  DERIVED. GIVEN WITH THE SEED: THE CARDS: each row of YtbhdollgohgkgaaGreatDoorRows.lean that lists a variable, with what it lists TIED to the program's text (the seventh form; the later family's looks); each row that meets fmt, with fmt's text TOLD by the authors' own Lean function (tested against real Go, not proved from fmt's source: count such statements apart). THE CARD IS WHAT COUNTS. Prove the row's statement (the work); the ties are given (YtbhdollgohgkgaaGreatDoorTie.lean); close each card by the builder's one call (the guide's Derived/Test/ToyasCard.lean, 'card_holds'). Laid BY PROGRAM, IN A SANDBOX (cutbox-door.mjs). By AI agents, Wed Nov 11 2026. No macro, syntax, notation, axiom, sorry.
-/
import Derived.Test.YtbhdollgohgkgaaGreatDoorRows
import GoSem.ClaimSeven
namespace Go.Proofs.YtbhdollgohgkgaaGreatDoor
namespace Rows

/-- THE TIED CARD OF 'cutroomlaw12.StreamParses'. -/
def streamParsesCard : Claim7 := { stood := { row := streamParsesRow, standIns := [], harness := (true, "3701ac760c534fb3480187ed73d2f24215da6088f64bdbb3e53f7a8b93ef338b"), looks := false }, kinds := [], alts := [], laidByText := true, laidKinds := [.data, .data], laidTests := true, laidLooks := .later }
def StreamParsesCardSaid : Prop := Claim7.holds Tryz.pinned (.plain (OpenSpec.ofChange streamParsesSpec)) streamParsesCard

/-- THE SECOND FORM's CARD OF 'cutroomlaw12.StreamParses'. -/
def streamParsesUptoCard : Claim7 := { stood := { row := streamParsesUptoRow, standIns := [], harness := (true, "3701ac760c534fb3480187ed73d2f24215da6088f64bdbb3e53f7a8b93ef338b"), looks := false }, kinds := [], alts := [], laidByText := true, laidKinds := [.data, .data], laidTests := true, laidLooks := .later }
def StreamParsesUptoCardSaid : Prop := Claim7.holds Tryz.pinned (.plain (OpenSpec.upto streamParsesSpec)) streamParsesUptoCard
end Rows
end Go.Proofs.YtbhdollgohgkgaaGreatDoor
