/-
  Contracts of package bitio: the writer.
-/
import Derived.Test.YtcabpncdgagihaaBt
namespace Go.Proofs.Ytcabpncdgagihaa.Sc
set_option linter.all false
set_option linter.unusedVariables false
set_option linter.unusedSimpArgs false
open Pm Ty Go.RowKit

theorem set_self {H : Heap} {i : Nat} {A : Blk} (h : H[i]? = some A) : H.set i A = H := by
  apply List.ext_getElem?
  intro j
  rw [List.getElem?_set]
  split
  · rename_i e; subst e
    split
    · exact h.symm
    · rename_i hn; exact absurd (List.getElem?_eq_some_iff.1 h).1 hn
  · rfl
theorem tmod8 (x : Nat) : (x : Int).tmod 8 = ((x % 8 : Nat) : Int) := tmodN x 8
theorem tdiv8 (x : Nat) : (x : Int).tdiv 8 = ((x / 8 : Nat) : Int) := tdivN x 8
end Go.Proofs.Ytcabpncdgagihaa.Sc
