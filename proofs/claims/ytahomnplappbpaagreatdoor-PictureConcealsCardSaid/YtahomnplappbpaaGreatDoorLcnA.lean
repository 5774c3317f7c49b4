/-
  What the statement PictureConcealsCardSaid's row asks of its law, shown (from the contract 'law_conceals'); the tie of the listed variables is the given one.
-/
import Derived.Test.YtahomnplappbpaaGreatDoorV17
import Derived.Test.YtahomnplappbpaaGreatDoorV19
import Derived.Test.YtahomnplappbpaaGreatDoorV29
import Derived.Test.YtahomnplappbpaaGreatDoorCards
import Derived.Test.YtahomnplappbpaaGreatDoorTie
import Derived.SevenTiedAt
namespace Go.Proofs.YtahomnplappbpaaGreatDoor.Lcn
set_option linter.all false
set_option linter.unusedVariables false
set_option linter.unusedSimpArgs false
open Go.ChangeShapes Go.WideShapes Go.ChangeAt Go.RowKit Pm Sc Lp

theorem law : ∀ xs, ArgsShp Tryz.prog Tryz.f8.params.toList xs → CallOk Tryz.prog 8 xs [] (.bool true) [] := by
  intro xs h
  rw [Tryz.params8] at h
  obtain ⟨x, r, rfl, hx, h⟩ := h.cons
  obtain ⟨y, r, rfl, hy, h⟩ := h.cons
  obtain ⟨z, r, rfl, hz, h⟩ := h.cons
  obtain rfl := h.nil
  obtain ⟨ps, hp, rfl⟩ := hx.agg (by simp [aggT, Tryz.underlying38])
  obtain ⟨s, rfl, hs⟩ := shp_seq hp
  obtain ⟨qs, hq, rfl⟩ := hy.agg (by simp [aggT, Tryz.underlying70])
  obtain ⟨p, rfl, _⟩ := shp_pic hq
  obtain ⟨rs, hr, rfl⟩ := hz.agg (by simp [aggT, Tryz.underlying53])
  obtain ⟨pa, rfl⟩ := Ln.shp_frame hr
  exact law_conceals s p pa hs []

theorem door_met (os : Os) (args : Array Value) : laidMetH Tryz.prog Rows.pictureConcealsRow.laid ((World.doorLaid Tryz.prog 19 os).forCall (fun _ _ => 0) ⟨#[], args, []⟩).memory :=
  laidMetH_of_parts3 (fuel := 8) (laidMet_of_run' 8 (by kernel_rfl) (by kernel_rfl)) (by kernel_rfl) (by kernel_rfl)
theorem mem0 {a : String × DataW Unit} {l : List (String × DataW Unit)} : a ∈ a :: l := .head _
theorem mem1 {a b : String × DataW Unit} {l : List (String × DataW Unit)} : a ∈ b :: a :: l := .tail _ (.head _)
set_option maxRecDepth 100000 in
theorem pictureConceals_lifted (os : Os) (started : os.Started) (H : Type) (enc : TypeId × Value → H) :
    ReturnsInHanded {} Tryz.checked os 8 .any (fun w args => (Rows.pictureConcealsSpec.pre enc Tryz.prog Tryz.f8 [] false w args ∧ laidMetH Tryz.prog Rows.pictureConcealsRow.laid w) ∧ sizedMet enc Tryz.prog Tryz.f8 (OpenSpec.ofChange Rows.pictureConcealsSpec) false w args) (Rows.pictureConcealsSpec.post enc Tryz.prog Tryz.f8 false true false false) := by
  refine returnsInHanded_of_change_and (C := Tryz.checked) (X := fun w _ => laidMetH Tryz.prog Rows.pictureConcealsRow.laid w) (fun _ _ _ hh h => h.of_heap hh) own started (by kernel_rfl) Tryz.func8
    (ChangeSpec.witness_shaped (enc := enc) (C := Tryz.checked) (os := os) (X := fun w _ => laidMetH Tryz.prog Rows.pictureConcealsRow.laid w) false (World.doorLaid Tryz.prog 19 os) #[.agg (#[.int .i64 0, .int .i64 0, .int .i64 0, .int .i64 0, .bool false, .int .i64 0, .int .i64 0] ++ Array.replicate 128 (.int .u8 0)), .agg #[.int .i64 0, .int .i64 0, .int .i64 0, .bool false, .bool false, .bool false], .agg #[.int .i64 0, .int .i64 0, .slice none 0 0, .slice none 0 0, .slice none 0 0]] 8 rfl (World.shaped_of_RefB (by kernel_rfl) (by kernel_rfl)) (by kernel_rfl) (by kernel_rfl) (by kernel_rfl) (door_met os _)) ?_
  intro W base args ds gs before hval hW _ _ hL _
  exact law_call (P := Tryz.prog) (fn := Tryz.f8) (n := 12) (tb := 4) (b0 := base) (r := .any) (glob_of hL (by kernel_rfl) mem0) law laidOut (by kernel_rfl) (by kernel_rfl) (by kernel_rfl) Tryz.underlying4 rfl
    (fun ds hd => match ds, hd with | [d0, d1, d2], _ => rfl) hval hW

end Go.Proofs.YtahomnplappbpaaGreatDoor.Lcn
