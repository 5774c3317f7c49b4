/-
  What the statement StreamFramesCardSaid's row asks of its law, shown (from the contract 'law_frames'); the tie of the listed variables is the given one.
-/
import Derived.Test.YtdajpjenhcobkaaGreatDoorX05
import Derived.Test.YtdajpjenhcobkaaGreatDoorX07
import Derived.Test.YtdajpjenhcobkaaGreatDoorX08
import Derived.Test.YtdajpjenhcobkaaGreatDoorX40
import Derived.Test.YtdajpjenhcobkaaGreatDoorX03
import Derived.Test.YtdajpjenhcobkaaGreatDoorCards
import Derived.Test.YtdajpjenhcobkaaGreatDoorTie
import Derived.SevenTiedAt
namespace Go.Proofs.YtdajpjenhcobkaaGreatDoor.Lwf
set_option linter.all false
set_option linter.unusedVariables false
set_option linter.unusedSimpArgs false
open Go.ChangeShapes Go.WideShapes Go.ChangeAt Go.RowKit Pm Sc Lp Lg

theorem law : ∀ xs, ArgsShp Tryz.prog Tryz.f3.params.toList xs → CallOk Tryz.prog 3 xs [] (.bool true) [] := by
  intro xs h
  rw [Tryz.params3] at h
  obtain ⟨x, r, rfl, hx, h⟩ := h.cons
  obtain ⟨y, r, rfl, hy, h⟩ := h.cons
  obtain ⟨z, r, rfl, hz, h⟩ := h.cons
  obtain ⟨w, r, rfl, hw, h⟩ := h.cons
  obtain rfl := h.nil
  obtain ⟨ps, hp, rfl⟩ := hx.agg (by simp [zcF, Tryz.underlying26])
  obtain ⟨s, rfl, hs⟩ := zs4 hp
  obtain ⟨cs, hh, _, hc⟩ := Shp.of_list (enc := cdE) (good := fun c : Cdd => ∀ u ∈ c.us, zex u.1) Tryz.underlying27 (fun q hq => by
    obtain ⟨p, U, us, rfl, _, _, h⟩ := zos hq
    exact ⟨⟨p, U, us⟩, rfl, h⟩) (hy.one (by simp [zcF, Tryz.underlying27]))
  cases hh
  obtain ⟨qs, hq, rfl⟩ := hz.agg (by simp [zcF, Tryz.underlying30])
  obtain ⟨pa, rfl, h1, h2⟩ := Ln.shp_frameW hq
  obtain ⟨rs, hr, rfl⟩ := hw.agg (by simp [zcF, Tryz.underlying30])
  obtain ⟨fu, rfl, h3, h4⟩ := Ln.shp_frameW hr
  exact zmF s cs pa fu false [] hs hc ⟨h1, h2, h3, h4⟩

theorem zr8 (os : Os) (args : Array Value) : laidMetH Tryz.prog Rows.streamFramesRow.laid ((World.doorLaid Tryz.prog 19 os).forCall (fun _ _ => 0) ⟨#[], args, []⟩).memory :=
  laidMetH_of_parts3 (fuel := 8) (laidMet_of_run' 8 (by kernel_rfl) (by kernel_rfl)) (by kernel_rfl) (by kernel_rfl)
theorem mem0 {a : String × DataW Unit} {l : List (String × DataW Unit)} : a ∈ a :: l := .head _
theorem mem1 {a b : String × DataW Unit} {l : List (String × DataW Unit)} : a ∈ b :: a :: l := .tail _ (.head _)
set_option maxRecDepth 100000 in
theorem zev (os : Os) (started : os.Started) (H : Type) (enc : TypeId × Value → H) :
    ReturnsInHanded {} Tryz.checked os 3 .any (fun w args => (Rows.streamFramesSpec.pre enc Tryz.prog Tryz.f3 [] false w args ∧ laidMetH Tryz.prog Rows.streamFramesRow.laid w) ∧ sizedMet enc Tryz.prog Tryz.f3 (OpenSpec.ofChange Rows.streamFramesSpec) false w args) (Rows.streamFramesSpec.post enc Tryz.prog Tryz.f3 false true false false) := by
  refine returnsInHanded_of_change_and (C := Tryz.checked) (X := fun w _ => laidMetH Tryz.prog Rows.streamFramesRow.laid w) (fun _ _ _ hh h => h.of_heap hh) own started (by kernel_rfl) Tryz.func3
    (ChangeSpec.witness_shaped (enc := enc) (C := Tryz.checked) (os := os) (X := fun w _ => laidMetH Tryz.prog Rows.streamFramesRow.laid w) false (World.doorLaid Tryz.prog 19 os) #[.agg (#[.int .i64 0, .int .i64 0, .int .i64 0, .int .i64 0, .bool false, .int .i64 0, .int .i64 0] ++ Array.replicate 128 (.int .u8 0)), .slice none 0 0, .agg #[.int .i64 0, .int .i64 0, .slice none 0 0, .slice none 0 0, .slice none 0 0], .agg #[.int .i64 0, .int .i64 0, .slice none 0 0, .slice none 0 0, .slice none 0 0]] 8 rfl (World.shaped_of_RefB (by kernel_rfl) (by kernel_rfl)) (by kernel_rfl) (by kernel_rfl) (by kernel_rfl) (zr8 os _)) ?_
  intro W base args ds gs before hval hW _ hsz hL _
  exact zrx (P := Tryz.prog) (fn := Tryz.f3) (n := 12) (tb := 4) (b0 := base) (r := .any) hsz (ztQ hL (by kernel_rfl) mem0 mem1) law laidOut (by kernel_rfl) (by kernel_rfl) (by kernel_rfl) Tryz.underlying4 rfl
    (fun ds hd => match ds, hd with | [d0, d1, d2, d3], _ => rfl) hval hW

end Go.Proofs.YtdajpjenhcobkaaGreatDoor.Lwf
