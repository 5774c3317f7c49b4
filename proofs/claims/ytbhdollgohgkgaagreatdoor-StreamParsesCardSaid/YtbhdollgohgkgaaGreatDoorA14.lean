/-
  Parts of the proof. No condition.
-/
import Derived.Test.YtbhdollgohgkgaaGreatDoorA05
namespace Go.Proofs.YtbhdollgohgkgaaGreatDoor.Sc
set_option linter.all false
set_option linter.unusedVariables false
set_option linter.unusedSimpArgs false
open Pm Go.RowKit

def isVal (r : Option Res) (v : PV) : Bool := match r with
  | some (.val w []) => eqb 20 w v
  | _ => false
theorem _root_.Go.Proofs.YtbhdollgohgkgaaGreatDoor.Pm.CallOk.evalV {P : Program} {H : Heap} (n : Nat) {f : FuncId} {args : List PV} {v : PV} (h : isVal (evalN P n (.call f args [])) v = true) (hs : ∀ x ∈ args, Scoped 0 x) : CallOk P f args H v H := by
  refine CallOk.eval n ?_ hs
  unfold isVal at h
  split at h
  · rename_i he; rw [he, eqb_sound 20 _ _ h]
  · cases h
theorem hl7 (H : Heap) (b0 b1 b2 b3 b4 b5 b6 : Blk) : (H ++ [b0, b1, b2, b3, b4, b5, b6]).length = H.length + 7 := by simp
theorem hl8 (H : Heap) (b0 b1 b2 b3 b4 b5 b6 b7 : Blk) : (H ++ [b0, b1, b2, b3, b4, b5, b6, b7]).length = H.length + 8 := by simp
theorem hl9 (H : Heap) (b0 b1 b2 b3 b4 b5 b6 b7 b8 : Blk) : (H ++ [b0, b1, b2, b3, b4, b5, b6, b7, b8]).length = H.length + 9 := by simp
theorem hl10 (H : Heap) (b0 b1 b2 b3 b4 b5 b6 b7 b8 b9 : Blk) : (H ++ [b0, b1, b2, b3, b4, b5, b6, b7, b8, b9]).length = H.length + 10 := by simp
theorem hl11 (H : Heap) (b0 b1 b2 b3 b4 b5 b6 b7 b8 b9 b10 : Blk) : (H ++ [b0, b1, b2, b3, b4, b5, b6, b7, b8, b9, b10]).length = H.length + 11 := by simp
theorem hl12 (H : Heap) (b0 b1 b2 b3 b4 b5 b6 b7 b8 b9 b10 b11 : Blk) : (H ++ [b0, b1, b2, b3, b4, b5, b6, b7, b8, b9, b10, b11]).length = H.length + 12 := by simp
theorem hp7 (H K : Heap) (b0 b1 b2 b3 b4 b5 b6 b7 : Blk) : (H ++ b0 :: b1 :: b2 :: b3 :: b4 :: b5 :: b6 :: b7 :: K)[H.length + 7]? = some b7 := by rw [List.getElem?_append_right (by omega)]; simp
theorem hs7 (H K : Heap) (b0 b1 b2 b3 b4 b5 b6 b7 x : Blk) : (H ++ b0 :: b1 :: b2 :: b3 :: b4 :: b5 :: b6 :: b7 :: K).set (H.length + 7) x = H ++ b0 :: b1 :: b2 :: b3 :: b4 :: b5 :: b6 :: x :: K := by rw [List.set_append_right _ _ (by omega)]; simp
theorem hp8 (H K : Heap) (b0 b1 b2 b3 b4 b5 b6 b7 b8 : Blk) : (H ++ b0 :: b1 :: b2 :: b3 :: b4 :: b5 :: b6 :: b7 :: b8 :: K)[H.length + 8]? = some b8 := by rw [List.getElem?_append_right (by omega)]; simp
theorem hs8 (H K : Heap) (b0 b1 b2 b3 b4 b5 b6 b7 b8 x : Blk) : (H ++ b0 :: b1 :: b2 :: b3 :: b4 :: b5 :: b6 :: b7 :: b8 :: K).set (H.length + 8) x = H ++ b0 :: b1 :: b2 :: b3 :: b4 :: b5 :: b6 :: b7 :: x :: K := by rw [List.set_append_right _ _ (by omega)]; simp
theorem hp9 (H K : Heap) (b0 b1 b2 b3 b4 b5 b6 b7 b8 b9 : Blk) : (H ++ b0 :: b1 :: b2 :: b3 :: b4 :: b5 :: b6 :: b7 :: b8 :: b9 :: K)[H.length + 9]? = some b9 := by rw [List.getElem?_append_right (by omega)]; simp
theorem hs9 (H K : Heap) (b0 b1 b2 b3 b4 b5 b6 b7 b8 b9 x : Blk) : (H ++ b0 :: b1 :: b2 :: b3 :: b4 :: b5 :: b6 :: b7 :: b8 :: b9 :: K).set (H.length + 9) x = H ++ b0 :: b1 :: b2 :: b3 :: b4 :: b5 :: b6 :: b7 :: b8 :: x :: K := by rw [List.set_append_right _ _ (by omega)]; simp
theorem hp10 (H K : Heap) (b0 b1 b2 b3 b4 b5 b6 b7 b8 b9 b10 : Blk) : (H ++ b0 :: b1 :: b2 :: b3 :: b4 :: b5 :: b6 :: b7 :: b8 :: b9 :: b10 :: K)[H.length + 10]? = some b10 := by rw [List.getElem?_append_right (by omega)]; simp
theorem hs10 (H K : Heap) (b0 b1 b2 b3 b4 b5 b6 b7 b8 b9 b10 x : Blk) : (H ++ b0 :: b1 :: b2 :: b3 :: b4 :: b5 :: b6 :: b7 :: b8 :: b9 :: b10 :: K).set (H.length + 10) x = H ++ b0 :: b1 :: b2 :: b3 :: b4 :: b5 :: b6 :: b7 :: b8 :: b9 :: x :: K := by rw [List.set_append_right _ _ (by omega)]; simp
theorem hp11 (H K : Heap) (b0 b1 b2 b3 b4 b5 b6 b7 b8 b9 b10 b11 : Blk) : (H ++ b0 :: b1 :: b2 :: b3 :: b4 :: b5 :: b6 :: b7 :: b8 :: b9 :: b10 :: b11 :: K)[H.length + 11]? = some b11 := by rw [List.getElem?_append_right (by omega)]; simp
theorem hs11 (H K : Heap) (b0 b1 b2 b3 b4 b5 b6 b7 b8 b9 b10 b11 x : Blk) : (H ++ b0 :: b1 :: b2 :: b3 :: b4 :: b5 :: b6 :: b7 :: b8 :: b9 :: b10 :: b11 :: K).set (H.length + 11) x = H ++ b0 :: b1 :: b2 :: b3 :: b4 :: b5 :: b6 :: b7 :: b8 :: b9 :: b10 :: x :: K := by rw [List.set_append_right _ _ (by omega)]; simp
attribute [go_sem] hl7 hl8 hl9 hl10 hl11 hl12 hp7 hs7 hp8 hs8 hp9 hs9 hp10 hs10 hp11 hs11
end Go.Proofs.YtbhdollgohgkgaaGreatDoor.Sc
