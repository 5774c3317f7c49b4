/-
  No cell of these rows narrows 'for every input' (looked for: loops, veiled, ifaces, maps, wideKeys, modest, calm, conditions, laid).
  DERIVED. THE GIVEN ROWS OF THIS SEAT. 3 by the template 'for every input the law returns true; each argument reads behind the call as it read before'; 0 by the template 'total and deterministic' (their statements: YtcabpncdgagihaaTotals.lean).
  GIVEN WITH THE SEED: the statements are not yours to turn. If you find one false, say at which input.
  Laid BY PROGRAM, IN A SANDBOX (cutbox-rows.mjs): the forced cells as the released guide's own fill.sh prints them over the translation 449c193c6fcfbd22… (all of the seat's roots in one cut). By AI agents, Wed Nov 11 2026. No macro, syntax, notation, axiom, sorry.
-/
import Derived.Test.YtcabpncdgagihaaChecked
import GoSem.Claim
import GoSem.ClaimJoined
import GoSem.ClaimMapViews
import Derived.JoinedTies
import Derived.KernelRfl
namespace Go.Proofs.Ytcabpncdgagihaa
/- THE CELL 'sum', in the pinned program and in every row, IS THE sha256 OF THE DUMP (.gsa) THAT YtcabpncdgagihaaProg.lean LOADS. Nothing in Lean hashes anything: it is a label: what it is worth is what the hold of that sum in a sandbox is worth. -/
noncomputable def Try.pinned : Pinned := { name := "ytcabpncdgagihaa", sum := "449c193c6fcfbd222500ed0401895bfdae4a29e7e0000ff13db7cda8864e4e05", checked := Try.checked }
namespace Rows
def none {H : Type} : Left H := { results := [], args := [] }

/-- 'cutroomlaw10.MacroblockPuts': WHATEVER THE INPUT: true; the input reads as it did. -/
def macroblockPutsSpec : ChangeSpec := { name := "macroblockPuts", fn := fun _ => fun
  | [d1, d2, d3] => { results := [.lit (.bool true)], args := [d1, d2, d3] }
  | _ => none }
def macroblockPutsRow : OpenClaim := { program := "ytcabpncdgagihaa", sum := "449c193c6fcfbd222500ed0401895bfdae4a29e7e0000ff13db7cda8864e4e05", func := "cutroom/cutroomlaw10.MacroblockPuts", spec := "macroblockPuts", unfollowed := true, recurses := true, apart := false }
def MacroblockPutsSaid : Prop := macroblockPutsRow.holds Try.pinned (OpenSpec.ofChange macroblockPutsSpec)

/-- ITS FALSE NEIGHBOUR: 'it returns false'. Refute it at one input. -/
def macroblockPutsWrong : ChangeSpec := { name := "macroblockPuts", fn := fun _ => fun
  | [d1, d2, d3] => { results := [.lit (.bool false)], args := [d1, d2, d3] }
  | _ => none }
def MacroblockPutsWrongFalsely : Prop := macroblockPutsRow.holds Try.pinned (OpenSpec.ofChange macroblockPutsWrong)

/-- 'cutroomlaw11.PictureQuants': WHATEVER THE INPUT: true; the input reads as it did. -/
def pictureQuantsSpec : ChangeSpec := { name := "pictureQuants", fn := fun _ => fun
  | [d1, d2, d3] => { results := [.lit (.bool true)], args := [d1, d2, d3] }
  | _ => none }
def pictureQuantsRow : OpenClaim := { program := "ytcabpncdgagihaa", sum := "449c193c6fcfbd222500ed0401895bfdae4a29e7e0000ff13db7cda8864e4e05", func := "cutroom/cutroomlaw11.PictureQuants", spec := "pictureQuants", unfollowed := true, recurses := true, apart := false }
def PictureQuantsSaid : Prop := pictureQuantsRow.holds Try.pinned (OpenSpec.ofChange pictureQuantsSpec)

/-- ITS FALSE NEIGHBOUR: 'it returns false'. Refute it at one input. -/
def pictureQuantsWrong : ChangeSpec := { name := "pictureQuants", fn := fun _ => fun
  | [d1, d2, d3] => { results := [.lit (.bool false)], args := [d1, d2, d3] }
  | _ => none }
def PictureQuantsWrongFalsely : Prop := pictureQuantsRow.holds Try.pinned (OpenSpec.ofChange pictureQuantsWrong)

/-- 'cutroomlaw10.MacroblockBack': WHATEVER THE INPUT: true; the input reads as it did. -/
def macroblockBackSpec : ChangeSpec := { name := "macroblockBack", fn := fun _ => fun
  | [d1, d2, d3] => { results := [.lit (.bool true)], args := [d1, d2, d3] }
  | _ => none }
def macroblockBackRow : OpenClaim := { program := "ytcabpncdgagihaa", sum := "449c193c6fcfbd222500ed0401895bfdae4a29e7e0000ff13db7cda8864e4e05", func := "cutroom/cutroomlaw10.MacroblockBack", spec := "macroblockBack", unfollowed := true, recurses := true, apart := false }
def MacroblockBackSaid : Prop := macroblockBackRow.holds Try.pinned (OpenSpec.ofChange macroblockBackSpec)

/-- ITS FALSE NEIGHBOUR: 'it returns false'. Refute it at one input. -/
def macroblockBackWrong : ChangeSpec := { name := "macroblockBack", fn := fun _ => fun
  | [d1, d2, d3] => { results := [.lit (.bool false)], args := [d1, d2, d3] }
  | _ => none }
def MacroblockBackWrongFalsely : Prop := macroblockBackRow.holds Try.pinned (OpenSpec.ofChange macroblockBackWrong)

/- THE SECOND FORM. 'bulk': how many values and letters a reading holds, each counted each time it is reached (what is shared counts as often as it is met; a slice's spare places count too). A statement '..UptoSaid' is the law's where the arguments, and the package variables that the reading takes, are together of bulk at most 1048576: NARROWER than '..Said'. Prove '..Said' where nothing that the law and all that it calls make is longer than what came in: it says more and counts as full. Else prove '..UptoSaid'. A law counts once. -/
mutual
def uptoBulk {H : Type} : DataW H → Nat
  | .lit (.string bytes) => bytes.length + 1
  | .lit _ => 1
  | .nil => 1
  | .ptr d => uptoBulk d + 1
  | .slice elems spare => uptoBulkAll elems + uptoBulkAll spare + 1
  | .agg parts => uptoBulkAll parts + 1
  | .iface _ d => uptoBulk d + 1
  | .map entries => uptoBulkEntries entries + 1
  | .held _ => 1
def uptoBulkAll {H : Type} : List (DataW H) → Nat
  | [] => 0
  | d :: r => uptoBulk d + uptoBulkAll r
def uptoBulkEntries {H : Type} : List (Lit × DataW H) → Nat
  | [] => 0
  | x :: r => uptoBulkEntry x + uptoBulkEntries r
def uptoBulkEntry {H : Type} : Lit × DataW H → Nat
  | (.string bytes, d) => bytes.length + uptoBulk d + 1
  | (_, d) => uptoBulk d + 1
 end
def uptoSmall : (H : Type) → List (DataW H) → Bool := fun _ ds => decide (uptoBulkAll ds ≤ 1048576)
def OpenSpec.upto (s : _root_.Go.ChangeSpec) : _root_.Go.OpenSpec := { _root_.Go.OpenSpec.ofChange s with cond := some uptoSmall }

/-- 'cutroomlaw10.MacroblockPuts', WHERE WHAT IT READS IS OF BULK AT MOST 1048576: true; the input reads as it did. -/
def macroblockPutsUptoRow : OpenClaim := { program := "ytcabpncdgagihaa", sum := "449c193c6fcfbd222500ed0401895bfdae4a29e7e0000ff13db7cda8864e4e05", func := "cutroom/cutroomlaw10.MacroblockPuts", spec := "macroblockPuts", unfollowed := true, recurses := true, apart := false, narrowed := true }
def MacroblockPutsUptoSaid : Prop := macroblockPutsUptoRow.holds Try.pinned (OpenSpec.upto macroblockPutsSpec)

/-- 'cutroomlaw11.PictureQuants', WHERE WHAT IT READS IS OF BULK AT MOST 1048576: true; the input reads as it did. -/
def pictureQuantsUptoRow : OpenClaim := { program := "ytcabpncdgagihaa", sum := "449c193c6fcfbd222500ed0401895bfdae4a29e7e0000ff13db7cda8864e4e05", func := "cutroom/cutroomlaw11.PictureQuants", spec := "pictureQuants", unfollowed := true, recurses := true, apart := false, narrowed := true }
def PictureQuantsUptoSaid : Prop := pictureQuantsUptoRow.holds Try.pinned (OpenSpec.upto pictureQuantsSpec)

/-- 'cutroomlaw10.MacroblockBack', WHERE WHAT IT READS IS OF BULK AT MOST 1048576: true; the input reads as it did. -/
def macroblockBackUptoRow : OpenClaim := { program := "ytcabpncdgagihaa", sum := "449c193c6fcfbd222500ed0401895bfdae4a29e7e0000ff13db7cda8864e4e05", func := "cutroom/cutroomlaw10.MacroblockBack", spec := "macroblockBack", unfollowed := true, recurses := true, apart := false, narrowed := true }
def MacroblockBackUptoSaid : Prop := macroblockBackUptoRow.holds Try.pinned (OpenSpec.upto macroblockBackSpec)

end Rows
end Go.Proofs.Ytcabpncdgagihaa
