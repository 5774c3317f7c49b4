/-
  What the statement StreamPadsCardSaid's row asks of its law, shown (from the contract 'law_pads'); the tie of the listed variables is the given one.
-/
import Derived.Test.YtjgmdlcjbgiekaaGreatDoorP07
import Derived.Test.YtjgmdlcjbgiekaaGreatDoorP08
import Derived.Test.YtjgmdlcjbgiekaaGreatDoorP22
import Derived.Test.YtjgmdlcjbgiekaaGreatDoorCards
import Derived.Test.YtjgmdlcjbgiekaaGreatDoorTie
import Derived.SevenTiedAt
namespace Go.Proofs.YtjgmdlcjbgiekaaGreatDoor.Lpd
set_option linter.all false
set_option linter.unusedVariables false
set_option linter.unusedSimpArgs false
open Go.ChangeShapes Go.WideShapes Go.ChangeAt Go.RowKit Pm Sc Lp Lg

theorem law : ∀ xs, ArgsShp Tryz.prog Tryz.f7.params.toList xs → CallOk Tryz.prog 7 xs [] (.bool true) [] := by
  intro xs h
  rw [Tryz.params7] at h
  obtain ⟨x, r, rfl, hx, h⟩ := h.cons
  obtain ⟨y, r, rfl, hy, h⟩ := h.cons
  obtain ⟨z, r, rfl, hz, h⟩ := h.cons
  obtain rfl := h.nil
  obtain ⟨l, hh, hl⟩ := zmR (hx.one (by simp [zcp, Tryz.underlying22]))
  cases hh
  have e : ∀ p : List Int, (p.flatMap fun n => [PV.int .i64 n]) = p.map (PV.int .i64) := fun p => by
    induction p with
    | nil => rfl
    | cons a r ih => rw [List.flatMap_cons, ih]; rfl
  obtain ⟨p, hh, _, hp⟩ := Shp.of_list (enc := fun n => [PV.int .i64 n]) (good := fun n : Int => zgS n) Tryz.underlying56 (fun q hq => by
    obtain ⟨n, rfl, h⟩ := za2 hq
    exact ⟨n, rfl, h⟩) (hy.one (by simp [zcp, Tryz.underlying56]))
  cases hh
  rw [e]
  obtain ⟨u, hh⟩ := zeS (hz.one (by simp [zcp, Tryz.underlying31]))
  cases hh
  exact zpG l p u false false false [] hl hp

theorem zqg (os : Os) (args : Array Value) : laidMetH Tryz.prog Rows.streamPadsRow.laid ((World.doorLaid Tryz.prog 19 os).forCall (fun _ _ => 0) ⟨#[], args, []⟩).memory :=
  laidMetH_of_parts3 (fuel := 8) (laidMet_of_run' 8 (by kernel_rfl) (by kernel_rfl)) (by kernel_rfl) (by kernel_rfl)
theorem mem0 {a : String × DataW Unit} {l : List (String × DataW Unit)} : a ∈ a :: l := .head _
theorem mem1 {a b : String × DataW Unit} {l : List (String × DataW Unit)} : a ∈ b :: a :: l := .tail _ (.head _)
set_option maxRecDepth 100000 in
theorem zed (os : Os) (started : os.Started) (H : Type) (enc : TypeId × Value → H) :
    ReturnsInHanded {} Tryz.checked os 7 .any (fun w args => (Rows.streamPadsSpec.pre enc Tryz.prog Tryz.f7 [] false w args ∧ laidMetH Tryz.prog Rows.streamPadsRow.laid w) ∧ sizedMet enc Tryz.prog Tryz.f7 (OpenSpec.ofChange Rows.streamPadsSpec) false w args) (Rows.streamPadsSpec.post enc Tryz.prog Tryz.f7 false true false false) := by
  refine returnsInHanded_of_change_and (C := Tryz.checked) (X := fun w _ => laidMetH Tryz.prog Rows.streamPadsRow.laid w) (fun _ _ _ hh h => h.of_heap hh) own started (by kernel_rfl) Tryz.func7
    (ChangeSpec.witness_shaped (enc := enc) (C := Tryz.checked) (os := os) (X := fun w _ => laidMetH Tryz.prog Rows.streamPadsRow.laid w) false (World.doorLaid Tryz.prog 19 os) #[.slice none 0 0, .slice none 0 0, .slice none 0 0] 8 rfl (World.shaped_of_RefB (by kernel_rfl) (by kernel_rfl)) (by kernel_rfl) (by kernel_rfl) (by kernel_rfl) (zqg os _)) ?_
  intro W base args ds gs before hval hW _ _ hL _
  exact zpH (P := Tryz.prog) (fn := Tryz.f7) (n := 12) (tb := 4) (b0 := base) (r := .any) (zsa hL (by kernel_rfl) mem0 mem1) law zr1 (by kernel_rfl) (by kernel_rfl) (by kernel_rfl) Tryz.underlying4 rfl
    (fun ds hd => match ds, hd with | [d0, d1, d2], _ => rfl) hval hW

end Go.Proofs.YtjgmdlcjbgiekaaGreatDoor.Lpd
