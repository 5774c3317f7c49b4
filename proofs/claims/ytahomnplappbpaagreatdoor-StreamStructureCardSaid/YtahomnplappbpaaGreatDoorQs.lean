/-
  Equality of sequence headers.
-/
import Derived.Test.YtahomnplappbpaaGreatDoorPa
namespace Go.Proofs.YtahomnplappbpaaGreatDoor.Sc
set_option linter.all false
set_option linter.unusedVariables false
set_option linter.unusedSimpArgs false
open Pm Ty Go.RowKit

/-- The matrices have 64 numbers each. -/
structure SqL (s : Sq) : Prop where
  ia : s.ia.length = 64
  ie : s.ie.length = 64
theorem SqOk.toL {s : Sq} (h : SqOk s) : SqL s := ⟨h.ia, h.ie⟩
theorem eqU_def (xs ys : List PV) : peqT Tryz.prog 11 36 (.agg xs) (.agg ys) = if szT Tryz.prog 5 = some 1 ∧ xs.length = 64 ∧ ys.length = 64 then peqI (.int .u8) xs ys else none := by kernel_rfl
theorem sz_u8 : szT Tryz.prog 5 = some 1 := by kernel_rfl
theorem eqU (p q : List UInt8) (h : p.length = 64) (h' : q.length = 64) : peqT Tryz.prog 11 36 (.agg (bs p)) (.agg (bs q)) = some (p == q) := by
  rw [eqU_def, if_pos ⟨sz_u8, by rw [length_bs]; exact h, by rw [length_bs]; exact h'⟩]
  exact peqI_bs .u8 p q (by rw [h, h'])
theorem rdU_def (xs : List PV) (off : Nat) : rd Tryz.prog 36 xs off = if off + 64 ≤ xs.length then some (.agg ((xs.drop off).take 64)) else none := by kernel_rfl
theorem sqc_len (s : Sq) (hs : SqL s) : (sqc s).length = 135 := by
  simp only [sqc, List.length_cons, List.length_append, length_bs, hs.ia, hs.ie]
theorem rdIa (s : Sq) (hs : SqL s) : rd Tryz.prog 36 (sqc s) 7 = some (.agg (bs s.ia)) := by
  rw [rdU_def, if_pos (by rw [sqc_len s hs]; omega)]
  rw [show (sqc s).drop 7 = bs s.ia ++ bs s.ie from rfl, sq_ia _ _ hs.ia]
theorem rdIe (s : Sq) (hs : SqL s) : rd Tryz.prog 36 (sqc s) 71 = some (.agg (bs s.ie)) := by
  rw [rdU_def, if_pos (by rw [sqc_len s hs]; omega)]
  rw [show (sqc s).drop 71 = (bs s.ia ++ bs s.ie).drop 64 from rfl, sq_ie _ _ hs.ia, sq_tk _ hs.ie]
def sqF (P : Program) : List Field := match P.underlying 38 with | some (.struct fs) => fs.toList | _ => []
def sqF6 (P : Program) : List Field := (sqF P).take 6
def sqF2 (P : Program) : List Field := (sqF P).drop 6
theorem peqF_ap (eq : TypeId → PV → PV → Option Bool) (P : Program) (xs ys : List PV) (s : List Field) (b : Bool) (hs : peqF eq P xs ys s = some b) : ∀ (r : List Field) (a : Bool), peqF eq P xs ys r = some a → peqF eq P xs ys (r ++ s) = some (a && b)
  | [], a, h => by
    cases h
    exact hs
  | f :: r, a, h => by
    rw [List.cons_append]
    revert h
    simp only [peqF]
    cases decide (f.name = "_") with
    | true => intro h; cases h
    | false =>
      cases rd P f.type xs f.offset with
      | none => intro h; cases h
      | some x =>
        cases rd P f.type ys f.offset with
        | none => intro h; cases h
        | some y =>
          dsimp only
          cases eq f.type x y with
          | none => intro h; cases h
          | some c =>
            dsimp only
            cases hq : peqF eq P xs ys r with
            | none => intro h; cases h
            | some q =>
              rw [peqF_ap eq P xs ys s b hs r q hq]
              intro h
              cases h
              simp [Bool.and_assoc]
def sqA (s t : Sq) : Bool := (s.w == t.w) && ((s.h == t.h) && (((s.num == t.num) && ((s.den == t.den) && true)) && ((s.il == t.il) && ((s.br == t.br) && ((s.bf == t.bf) && true)))))
/-- Are two headers equal? -/
def sqE (s t : Sq) : Bool := sqA s t && ((s.ia == t.ia) && ((s.ie == t.ie) && true))
theorem sq6 (a1 a2 a3 a4 : Int) (a5 : Bool) (a6 a7 : Int) (p q : List UInt8) (b1 b2 b3 b4 : Int) (b5 : Bool) (b6 b7 : Int) (p' q' : List UInt8) : peqF (peqT Tryz.prog 11) Tryz.prog (sqc ⟨a1, a2, a3, a4, a5, a6, a7, p, q⟩) (sqc ⟨b1, b2, b3, b4, b5, b6, b7, p', q'⟩) (sqF6 Tryz.prog) = some (sqA ⟨a1, a2, a3, a4, a5, a6, a7, p, q⟩ ⟨b1, b2, b3, b4, b5, b6, b7, p', q'⟩) := by kernel_rfl
theorem sq2_def (xs ys : List PV) (x y x' y' : PV) (b b' : Bool) (hx : rd Tryz.prog 36 xs 7 = some x) (hy : rd Tryz.prog 36 ys 7 = some y) (hb : peqT Tryz.prog 11 36 x y = some b) (hx' : rd Tryz.prog 36 xs 71 = some x') (hy' : rd Tryz.prog 36 ys 71 = some y') (hb' : peqT Tryz.prog 11 36 x' y' = some b') : peqF (peqT Tryz.prog 11) Tryz.prog xs ys (sqF2 Tryz.prog) = some (b && (b' && true)) := by
  have e : peqF (peqT Tryz.prog 11) Tryz.prog xs ys (sqF2 Tryz.prog) = match rd Tryz.prog 36 xs 7, rd Tryz.prog 36 ys 7 with
      | some a, some b => match peqT Tryz.prog 11 36 a b with
        | some c => (match rd Tryz.prog 36 xs 71, rd Tryz.prog 36 ys 71 with
          | some a, some b => match peqT Tryz.prog 11 36 a b with
            | some c => some (c && true)
            | none => none
          | _, _ => none).map fun q => c && q
        | none => none
      | _, _ => none := by kernel_rfl
  rw [e, hx, hy, hx', hy']
  simp only [hb, hb', Option.map_some]
theorem peqT_sq (xs ys : List PV) : peqT Tryz.prog 12 38 (.agg xs) (.agg ys) = peqF (peqT Tryz.prog 11) Tryz.prog xs ys ((sqF6 Tryz.prog) ++ (sqF2 Tryz.prog)) := by kernel_rfl
theorem eqSq (s t : Sq) (hs : SqL s) (ht : SqL t) : peqG Tryz.prog .eql 38 (.agg (sqc s)) (.agg (sqc t)) = some (.bool (sqE s t)) := by
  have e : ∀ x y, peqG Tryz.prog .eql 38 x y = match peqT Tryz.prog 12 38 x y with | some b => peq .eql b | none => none := fun x y => by kernel_rfl
  rw [e, peqT_sq, peqF_ap _ _ _ _ _ _ (sq2_def _ _ _ _ _ _ _ _ (rdIa s hs) (rdIa t ht) (eqU _ _ hs.ia ht.ia) (rdIe s hs) (rdIe t ht) (eqU _ _ hs.ie ht.ie)) (sqF6 Tryz.prog) (sqA s t) (sq6 ..)]
  rfl
theorem eqSx (a1 a2 a3 a4 : Int) (a5 : Bool) (a6 a7 : Int) (p q : List UInt8) (b1 b2 b3 b4 : Int) (b5 : Bool) (b6 b7 : Int) (p' q' : List UInt8) (h1 : p.length = 64) (h2 : q.length = 64) (h3 : p'.length = 64) (h4 : q'.length = 64) :
    peqG Tryz.prog .eql 38 (.agg (.int .i64 a1 :: .int .i64 a2 :: .int .i64 a3 :: .int .i64 a4 :: .bool a5 :: .int .i64 a6 :: .int .i64 a7 :: (bs p ++ bs q))) (.agg (.int .i64 b1 :: .int .i64 b2 :: .int .i64 b3 :: .int .i64 b4 :: .bool b5 :: .int .i64 b6 :: .int .i64 b7 :: (bs p' ++ bs q'))) = some (.bool (sqE ⟨a1, a2, a3, a4, a5, a6, a7, p, q⟩ ⟨b1, b2, b3, b4, b5, b6, b7, p', q'⟩)) :=
  eqSq ⟨a1, a2, a3, a4, a5, a6, a7, p, q⟩ ⟨b1, b2, b3, b4, b5, b6, b7, p', q'⟩ ⟨h1, h2⟩ ⟨h3, h4⟩
/-- Do they differ in the bit rate and the buffer alone? -/
def agr (s t : Sq) : Bool := sqE s { t with br := s.br, bf := s.bf }

end Go.Proofs.YtahomnplappbpaaGreatDoor.Sc
