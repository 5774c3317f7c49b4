/-
  Parts of the proof. No condition.
-/
import Derived.Test.YtbhdollgohgkgaaGreatDoorA10
import Derived.Test.YtbhdollgohgkgaaGreatDoorA07
namespace Go.Proofs.YtbhdollgohgkgaaGreatDoor.Sc
set_option linter.all false
set_option linter.unusedVariables false
set_option linter.unusedSimpArgs false
open Pm Ty Go.RowKit

theorem pic_scV (p : Pi) (n : Nat) : ∀ x ∈ pic p, Scoped n x := fun x hx => by
  simp only [pic, List.mem_cons, List.not_mem_nil, or_false] at hx
  rcases hx with rfl | rfl | rfl | rfl | rfl | rfl
  · exact .int _ _
  · exact .int _ _
  · exact .int _ _
  · exact .bool _
  · exact .bool _
  · exact .bool _
theorem flat_get {α : Type} (enc : α → List PV) (N : Nat) (l : List α) (k r : Nat) (hk : k < l.length) (hl : ∀ x ∈ l, (enc x).length = N) (hr : r < N) : (l.flatMap enc)[k * N + r]? = (enc l[k])[r]? := by
  rw [← flat_at enc N l k hk hl, List.getElem?_take, if_pos hr, List.getElem?_drop]
/-! ### units of a coded picture -/
def uq1 (u : Int × List UInt8) : List PV := [.int .i64 u.1, .slice (bs u.2) u.2.length false]
def uq (us : List (Int × List UInt8)) : List PV := us.flatMap uq1
theorem uq_len (us : List (Int × List UInt8)) : (uq us).length = us.length * 2 := flat_len uq1 2 us fun _ _ => rfl
theorem uq_at (us : List (Int × List UInt8)) (k : Nat) (hk : k < us.length) : List.take 2 (List.drop (k * 2) (uq us)) = uq1 us[k] := flat_at uq1 2 us k hk fun _ _ => rfl
theorem uq_sc (n : Nat) (us : List (Int × List UInt8)) : ∀ x ∈ uq us, Scoped n x := fun x hx => by
  obtain ⟨u, _, hx⟩ := List.mem_flatMap.1 hx
  simp only [uq1, List.mem_cons, List.not_mem_nil, or_false] at hx
  rcases hx with rfl | rfl
  · exact .int _ _
  · exact sl_scoped (bs_scoped _ _)
def usr1 (u : List UInt8) : List PV := [.slice (bs u) u.length false]
def usr (U : List (List UInt8)) : PV := .slice (U.flatMap usr1) U.length false
theorem usr_sc (n : Nat) (U : List (List UInt8)) : Scoped n (usr U) := sl_scoped fun x hx => by
  obtain ⟨u, _, hx⟩ := List.mem_flatMap.1 hx
  simp only [usr1, List.mem_cons, List.not_mem_nil, or_false] at hx
  rw [hx]
  exact sl_scoped (bs_scoped _ _)
/-- A coded picture. -/
def cdc (p : Pi) (U : List (List UInt8)) (us : List (Int × List UInt8)) : List PV := pic p ++ [usr U, .slice (uq us) us.length false]
theorem cdc_len (p : Pi) (U : List (List UInt8)) (us : List (Int × List UInt8)) : (cdc p U us).length = 8 := rfl
theorem cdc_cell (p : Pi) (U : List (List UInt8)) (us : List (Int × List UInt8)) : (cdc p U us).all PV.cell = true := rfl
theorem cdc_p (p : Pi) (U : List (List UInt8)) (us : List (Int × List UInt8)) : List.take 6 (cdc p U us) = pic p := rfl
theorem cdc_7 (p : Pi) (U : List (List UInt8)) (us : List (Int × List UInt8)) : (cdc p U us)[7]? = some (.slice (uq us) us.length false) := rfl
theorem cdc_sc (n : Nat) (p : Pi) (U : List (List UInt8)) (us : List (Int × List UInt8)) : ∀ x ∈ cdc p U us, Scoped n x := fun x hx => by
  rcases List.mem_append.1 hx with hx | hx
  · exact pic_scV _ _ x hx
  · simp only [List.mem_cons, List.not_mem_nil, or_false] at hx
    rcases hx with rfl | rfl
    · exact usr_sc _ _
    · exact sl_scoped (uq_sc _ _)

/-! ### items -/
structure It where
  k : Int
  s : Sq
  gc : Bool
  gb : Bool
  gt : Int
  p : Pi
  U : List (List UInt8)
  us : List (Int × List UInt8)
  pad : Int
def itc (x : It) : List PV := .int .i64 x.k :: (sqc x.s ++ (.bool x.gc :: .bool x.gb :: .int .i64 x.gt :: (cdc x.p x.U x.us ++ [.int .i64 x.pad])))
structure ItOk (x : It) : Prop where
  s : SqOk x.s
  k : i64r x.k
  gt : i64r x.gt
  pad : i64r x.pad
  ut : ∀ u ∈ x.us, i64r u.1
theorem sqc_l (s : Sq) (hs : SqOk s) : (sqc s).length = 135 := by
  simp [sqc, length_bs, hs.ia, hs.ie]
theorem itc_len (x : It) (h : SqOk x.s) : (itc x).length = 148 := by
  simp only [itc, List.length_cons, List.length_append, sqc_l x.s h, cdc_len, List.length_nil]
theorem itc_cell (x : It) : (itc x).all PV.cell = true := by
  simp [itc, sqc, bs, cdc, pic, usr, PV.cell]
theorem itc_0 (x : It) : (itc x)[0]? = some (.int .i64 x.k) := rfl
theorem itc_s (x : It) (h : SqOk x.s) : List.take 135 (List.drop 1 (itc x)) = sqc x.s := by
  show List.take 135 (sqc x.s ++ _) = _
  exact List.take_left' (sqc_l x.s h)
theorem itc_d (x : It) (h : SqOk x.s) (n : Nat) : List.drop (136 + n) (itc x) = List.drop n (.bool x.gc :: .bool x.gb :: .int .i64 x.gt :: (cdc x.p x.U x.us ++ [.int .i64 x.pad])) := by
  have e : List.drop 136 (itc x) = .bool x.gc :: .bool x.gb :: .int .i64 x.gt :: (cdc x.p x.U x.us ++ [.int .i64 x.pad]) := by
    show List.drop 135 (sqc x.s ++ _) = _
    exact List.drop_left' (sqc_l x.s h)
  rw [← List.drop_drop, e]
theorem itc_g (x : It) (h : SqOk x.s) : List.take 3 (List.drop 136 (itc x)) = [.bool x.gc, .bool x.gb, .int .i64 x.gt] := by
  have := itc_d x h 0
  rw [this]; rfl
theorem itc_c (x : It) (h : SqOk x.s) : List.take 8 (List.drop 139 (itc x)) = cdc x.p x.U x.us := by
  have := itc_d x h 3
  rw [this]; rfl
theorem itc_at (x : It) (h : SqOk x.s) (n : Nat) : (itc x)[136 + n]? = (.bool x.gc :: .bool x.gb :: .int .i64 x.gt :: (cdc x.p x.U x.us ++ [.int .i64 x.pad]))[n]? := by
  have := congrArg (·[0]?) (itc_d x h n)
  simpa using this
theorem itc_pad (x : It) (h : SqOk x.s) : (itc x)[147]? = some (.int .i64 x.pad) := itc_at x h 11
theorem itc_sc (n : Nat) (x : It) : ∀ y ∈ itc x, Scoped n y := fun y hy => by
  simp only [itc, List.mem_cons, List.mem_append, List.not_mem_nil, or_false] at hy
  rcases hy with rfl | hy | rfl | rfl | rfl | hy | rfl
  · exact .int _ _
  · exact sqc_scoped _ _ y hy
  · exact .bool _
  · exact .bool _
  · exact .int _ _
  · exact cdc_sc _ _ _ _ y hy
  · exact .int _ _

end Go.Proofs.YtbhdollgohgkgaaGreatDoor.Sc

namespace Go.Proofs.YtbhdollgohgkgaaGreatDoor.Lg
set_option linter.all false
set_option linter.unusedVariables false
set_option linter.unusedSimpArgs false
open Go.ChangeShapes Go.WideShapes Go.ChangeAt Go.RowKit Pm Sc Lp

end Go.Proofs.YtbhdollgohgkgaaGreatDoor.Lg

namespace Go.Proofs.YtbhdollgohgkgaaGreatDoor.Sc
set_option linter.all false
set_option linter.unusedVariables false
set_option linter.unusedSimpArgs false
open Pm Ty Go.RowKit

theorem usr_at (U : List (List UInt8)) (k : Nat) (hk : k < U.length) : (U.flatMap usr1)[k]? = some (.slice (bs U[k]) U[k].length false) := by
  have := flat_get usr1 1 U k 0 hk (fun _ _ => rfl) (by omega)
  rwa [Nat.mul_one, Nat.add_zero] at this
theorem usr_l (U : List (List UInt8)) : (U.flatMap usr1).length = U.length := by
  rw [flat_len usr1 1 U fun _ _ => rfl, Nat.mul_one]

def itL (l : List It) : List PV := l.flatMap itc
theorem itL_len (l : List It) (h : ∀ x ∈ l, SqOk x.s) : (itL l).length = l.length * 148 := flat_len itc 148 l fun x hx => itc_len x (h x hx)
theorem itL_at (l : List It) (h : ∀ x ∈ l, SqOk x.s) (k : Nat) (hk : k < l.length) : List.take 148 (List.drop (k * 148) (itL l)) = itc l[k] := flat_at itc 148 l k hk fun x hx => itc_len x (h x hx)
theorem itL_sc (n : Nat) (l : List It) : ∀ x ∈ itL l, Scoped n x := fun x hx => by
  obtain ⟨u, _, hx⟩ := List.mem_flatMap.1 hx
  exact itc_sc _ _ x hx
end Go.Proofs.YtbhdollgohgkgaaGreatDoor.Sc
