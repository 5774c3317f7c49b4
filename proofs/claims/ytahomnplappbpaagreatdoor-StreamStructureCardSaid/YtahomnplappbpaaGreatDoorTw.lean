/-
  Heaps two of whose blocks are set. No condition. Program-independent.
-/
import Derived.Test.YtahomnplappbpaaGreatDoorBs
namespace Go.Proofs.YtahomnplappbpaaGreatDoor.Sc
set_option linter.all false
set_option linter.unusedVariables false
set_option linter.unusedSimpArgs false
open Pm Ty Go.RowKit

/-- Two blocks of a heap, set. -/
def tw (H : Heap) (i j : Nat) (A B : Blk) : Heap := (H.set i A).set j B
theorem tw_0 (H : Heap) (i j : Nat) (A B : Blk) (h : i < H.length ∧ i ≠ j) : (tw H i j A B)[i]? = some A := by
  unfold tw; rw [List.getElem?_set_ne (by omega)]; simp [h.1]
theorem tw_1 (H : Heap) (i j : Nat) (A B : Blk) (h : j < H.length) : (tw H i j A B)[j]? = some B := by
  unfold tw; simp [h]
theorem tw_len (H : Heap) (i j : Nat) (A B : Blk) : (tw H i j A B).length = H.length := by simp [tw]
theorem tw_tw (H : Heap) (i j : Nat) (A B C D : Blk) (h : i ≠ j) : tw (tw H i j A B) i j C D = tw H i j C D := by
  unfold tw; rw [List.set_comm _ _ (by omega : i ≠ j), List.set_set, List.set_comm _ _ (by omega : j ≠ i), List.set_set]
theorem set_id {H : Heap} {i : Nat} {A : Blk} (h : H[i]? = some A) : H.set i A = H := by
  apply List.ext_getElem?
  intro j
  rw [List.getElem?_set]
  split
  · rename_i e; subst e
    split
    · exact h.symm
    · rename_i hn; exact absurd (List.getElem?_eq_some_iff.1 h).1 hn
  · rfl
theorem tw_sc {H : Heap} {i j : Nat} {A B : Blk} (hA : ∀ x ∈ A.cells, Scoped H.length x) (hB : ∀ x ∈ B.cells, Scoped H.length x) (h : HSc H) : HSc (tw H i j A B) :=
  HSc.set (HSc.set h hA) (by rw [List.length_set]; exact hB)

end Go.Proofs.YtahomnplappbpaaGreatDoor.Sc
