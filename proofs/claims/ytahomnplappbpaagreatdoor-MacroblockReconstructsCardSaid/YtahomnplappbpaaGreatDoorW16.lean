/-
  Parts of the proof, put together in one text. No condition.
-/
import Derived.Test.YtahomnplappbpaaGreatDoorW15
import Derived.Test.YtahomnplappbpaaGreatDoorRows
import Derived.Test.YtahomnplappbpaaGreatDoorW09
namespace Go.Proofs.YtahomnplappbpaaGreatDoor.Sc
set_option linter.all false
set_option linter.unusedVariables false
set_option linter.unusedSimpArgs false
open Pm Ty Go.RowKit

/-- Bytes as cells. -/
def bs (p : List UInt8) : List PV := p.map fun b => .int .u8 (b.toNat : Int)
theorem length_bs (p : List UInt8) : (bs p).length = p.length := by simp [bs]
def byt (p : List UInt8) (k : Nat) : Int := ((p.getD k 0).toNat : Int)
theorem byt_range (p : List UInt8) (k : Nat) : 0 ≤ byt p k ∧ byt p k ≤ 255 := by
  unfold byt
  have := (p.getD k 0).toNat_lt
  omega
theorem bs_get (p : List UInt8) (k : Nat) (h : k < p.length) : (bs p)[k]? = some (.int .u8 (byt p k)) := by
  simp [bs, byt, h]
theorem pbytes_bs (p : List UInt8) : pbytes (bs p) = some p := by
  unfold pbytes bs
  induction p with
  | nil => rfl
  | cons b p ih => simp [List.mapM_cons, Pm.byteOf, ih]
theorem bs_append (p q : List UInt8) : bs (p ++ q) = bs p ++ bs q := by simp [bs]
theorem bs_one (b : UInt8) : bs [b] = [.int .u8 (b.toNat : Int)] := rfl
theorem bs_rep (n : Nat) : bs (List.replicate n 0) = List.replicate n (.int .u8 0) := by simp [bs]
theorem bs_scoped (n : Nat) (p : List UInt8) : ∀ x ∈ bs p, Scoped n x := fun x hx => by
  obtain ⟨b, _, rfl⟩ := List.mem_map.1 hx
  exact .int _ _
theorem sl_scoped {n k : Nat} {xs : List PV} {f : Bool} (h : ∀ x ∈ xs, Scoped n x) : Scoped n (.slice xs k f) := .slice fun j x hx => h x (List.mem_of_getElem? hx)
theorem ag_scoped {n : Nat} {xs : List PV} (h : ∀ x ∈ xs, Scoped n x) : Scoped n (.agg xs) := .agg fun j x hx => h x (List.mem_of_getElem? hx)
theorem _root_.Go.Proofs.YtahomnplappbpaaGreatDoor.Pm.Fz.id' {n : Nat} {H : Heap} {x y : PV} (e : x = y) (h : Scoped n y) : Fz n H x y := e ▸ .id (e ▸ h)
theorem bs_set (b : List UInt8) (i : Nat) (v : UInt8) : (bs b).set i (.int .u8 (v.toNat : Int)) = bs (b.set i v) := by
  simp [bs, List.map_set]
theorem bs_drop (p : List UInt8) (k : Nat) : (bs p).drop k = bs (p.drop k) := by simp [bs]
theorem bs_take (p : List UInt8) (k : Nat) : (bs p).take k = bs (p.take k) := by simp [bs]
theorem tdiv_abs (a b : Int) : -(a.natAbs : Int) ≤ a.tdiv b ∧ a.tdiv b ≤ (a.natAbs : Int) := by
  have h : (a.tdiv b).natAbs ≤ a.natAbs := by rw [Int.natAbs_tdiv]; exact Nat.div_le_self _ _
  omega
/-- A quotient does not wrap. -/
theorem wq64 (a b : Int) (h : -9223372036854775807 ≤ a ∧ a ≤ 9223372036854775807) : IntKind.i64.wrap (a.tdiv b) = a.tdiv b := by
  have := tdiv_abs a b
  exact w64 _ (by omega)
theorem tdiv_pos (a b : Int) (h : 0 ≤ a) : a.tdiv b = a / b := Int.tdiv_eq_ediv_of_nonneg h
theorem tmod_pos (a b : Int) (h : 0 ≤ a) : a.tmod b = a % b := Int.tmod_eq_emod_of_nonneg h

/-- A list of ints as cells. -/
def is (l : List Int) : List PV := l.map fun n => .int .i64 n
theorem is_len (l : List Int) : (is l).length = l.length := by simp [is]
def intAt (l : List Int) (k : Nat) : Int := l.getD k 0
theorem is_get (l : List Int) (i : Nat) (h : i < l.length) : (is l)[i]? = some (.int .i64 (intAt l i)) := by simp [is, intAt, h]
theorem is_scoped (n : Nat) (p : List Int) : ∀ x ∈ is p, Scoped n x := fun x hx => by
  obtain ⟨b, _, rfl⟩ := List.mem_map.1 hx
  exact .int _ _
theorem is_set (b : List Int) (i : Nat) (v : Int) : (is b).set i (.int .i64 v) = is (b.set i v) := by simp [is, List.map_set]
theorem is_drop (p : List Int) (k : Nat) : (is p).drop k = is (p.drop k) := by simp [is]
theorem is_take (p : List Int) (k : Nat) : (is p).take k = is (p.take k) := by simp [is]
theorem peqI_is (k : IntKind) : ∀ (p q : List Int), p.length = q.length → peqI (.int k) (is p) (is q) = some (p == q)
  | [], [], _ => rfl
  | a :: p, b :: q, h => by
    have ih := peqI_is k p q (by simpa using h)
    show (match peqS (.int k) (.int .i64 a) (.int .i64 b) with | some c => (peqI (.int k) (is p) (is q)).map fun r => c && r | none => none) = _
    rw [ih]
    simp only [peqS, if_true, Option.map_some]
    rfl
  | [], _ :: _, h => by simp at h
  | _ :: _, [], h => by simp at h

/-- A list of flags as cells. -/
def fs (l : List Bool) : List PV := l.map fun b => .bool b
theorem fs_len (l : List Bool) : (fs l).length = l.length := by simp [fs]
def flagAt (l : List Bool) (k : Nat) : Bool := l.getD k false
theorem fs_get (l : List Bool) (i : Nat) (h : i < l.length) : (fs l)[i]? = some (.bool (flagAt l i)) := by simp [fs, flagAt, h]
theorem fs_scoped (n : Nat) (p : List Bool) : ∀ x ∈ fs p, Scoped n x := fun x hx => by
  obtain ⟨b, _, rfl⟩ := List.mem_map.1 hx
  exact .bool _
/-! ### shifts and bits -/
end Go.Proofs.YtahomnplappbpaaGreatDoor.Sc

namespace Go.Proofs.YtahomnplappbpaaGreatDoor.Sc
set_option linter.all false
set_option linter.unusedVariables false
set_option linter.unusedSimpArgs false
open Pm Ty Go.RowKit

/-- A sequence header. -/
structure Sq where
  w : Int
  h : Int
  num : Int
  den : Int
  il : Bool
  br : Int
  bf : Int
  ia : List UInt8
  ie : List UInt8
def sqc (s : Sq) : List PV := .int .i64 s.w :: .int .i64 s.h :: .int .i64 s.num :: .int .i64 s.den :: .bool s.il :: .int .i64 s.br :: .int .i64 s.bf :: (bs s.ia ++ bs s.ie)
structure SqOk (s : Sq) : Prop where
  w : -9223372036854775808 ≤ s.w ∧ s.w ≤ 9223372036854775807
  h : -9223372036854775808 ≤ s.h ∧ s.h ≤ 9223372036854775807
  num : -9223372036854775808 ≤ s.num ∧ s.num ≤ 9223372036854775807
  den : -9223372036854775808 ≤ s.den ∧ s.den ≤ 9223372036854775807
  br : -9223372036854775808 ≤ s.br ∧ s.br ≤ 9223372036854775807
  bf : -9223372036854775808 ≤ s.bf ∧ s.bf ≤ 9223372036854775807
  ia : s.ia.length = 64
  ie : s.ie.length = 64
theorem sqc_scoped (n : Nat) (s : Sq) : ∀ x ∈ sqc s, Scoped n x := fun x hx => by
  simp only [sqc, List.mem_cons, List.mem_append] at hx
  rcases hx with rfl | rfl | rfl | rfl | rfl | rfl | rfl | hx | hx
  all_goals first | exact .int _ _ | exact .bool _ | exact bs_scoped n _ x hx
theorem sq_ia (p q : List UInt8) (h : p.length = 64) : (bs p ++ bs q).take 64 = bs p := by
  rw [List.take_append_of_le_length (by rw [length_bs]; omega), List.take_of_length_le (by rw [length_bs]; omega)]
theorem sq_ie (p q : List UInt8) (h : p.length = 64) : (bs p ++ bs q).drop 64 = bs q := by
  rw [List.drop_append_of_le_length (by rw [length_bs]; omega), List.drop_of_length_le (by rw [length_bs]; omega), List.nil_append]
theorem sq_tk (q : List UInt8) (h : q.length = 64) : (bs q).take 64 = bs q := List.take_of_length_le (by rw [length_bs]; omega)

def mxOk (m : List UInt8) : Bool := m.all fun b => decide (8 ≤ b.toNat)
theorem mxOk_at (m : List UInt8) (k : Nat) (hk : k ≤ m.length) : (m.drop k).all (fun b => decide (8 ≤ b.toNat)) = if k < m.length then decide (8 ≤ byt m k) && (m.drop (k + 1)).all (fun b => decide (8 ≤ b.toNat)) else true := by
  split
  · rename_i h
    rw [List.drop_eq_getElem_cons h, List.all_cons]
    congr 1
    simp [byt, h]
    omega
  · rw [List.drop_of_length_le (by omega)]; rfl
theorem mx_ok (m : List UInt8) (H : Heap) (hl : m.length = 64) : CallOk Tryz.prog 77 [.agg (bs m)] H (.bool (mxOk m)) H := by
  refine CallOk.body (F0 := [(0, .agg (bs m))]) Tryz.func77 rfl Tryz.ntmps77 Tryz.results77 rfl (by kernel_rfl) rfl ?_
  have hall : (bs m).all PV.cell = true := by simp [bs, PV.cell]
  (repeat refine PW.seq ?_); refine PW.rg rfl fun K hK => ?_; simp (disch := omega) only [go_sem, ↓reduceIte, reduceCtorEq, pappend, plen, hall]; refine hK _ _ ?_; clear hK K
  (repeat refine PW.seq ?_); refine PW.rg rfl fun K hK => ?_; simp (disch := omega) only [go_sem, ↓reduceIte, reduceCtorEq, pappend, plen, length_bs, sq_tk]; refine hK _ _ ?_; clear hK K
  (repeat refine PW.seq ?_); refine PW.block (PW.loop ?_)
  suffices hloop : ∀ (k : Nat), k ≤ 64 → mxOk m = (m.drop k).all (fun b => decide (8 ≤ b.toNat)) → PL Tryz.prog _ _ [(5, .agg (bs m)), (6, .int .i64 (k : Int))] (H ++ [⟨36, 0, bs m⟩]) _ by
    exact PL.at [5, 6] (hloop 0 (by omega) (by simp [mxOk])) rfl rfl
  intro k hk heq
  induction hm : 64 - k using Nat.strongRecOn generalizing k with
  | _ n ih =>
    rw [mxOk_at m k (by omega)] at heq
    refine PL.round ?_; (repeat refine PW.seq ?_); refine PW.rg rfl fun K hK => ?_; simp (disch := omega) only [go_sem, ↓reduceIte, reduceCtorEq, pappend, plen]; refine hK _ _ ?_; clear hK K
    (repeat refine PW.seq ?_); refine PW.cond (t := _) rfl (fun h => ?_) (fun h => ?_)
    · have h4 : k < 64 := by have := of_decide_eq_true h; omega
      rw [if_pos (by omega)] at heq
      refine PW.skip ?_; (repeat refine PW.seq ?_); refine PW.block ?_
      (repeat refine PW.seq ?_); refine PW.rg rfl fun K hK => ?_; simp (disch := omega) only [go_sem, ↓reduceIte, reduceCtorEq, pappend, plen, bs_get]; refine hK _ _ ?_; clear hK K
      (repeat refine PW.seq ?_); refine PW.rg rfl fun K hK => ?_; simp (disch := omega) only [go_sem, ↓reduceIte, reduceCtorEq, pappend, plen]; refine hK _ _ ?_; clear hK K
      (repeat refine PW.seq ?_); refine PW.cond (t := _) rfl (fun h => ?_) (fun h => ?_)
      · have h5 := of_decide_eq_true h
        (repeat refine PW.seq ?_); refine PW.rg rfl fun K hK => ?_; simp (disch := omega) only [go_sem, ↓reduceIte, reduceCtorEq, pappend, plen]; refine hK _ _ ?_; clear hK K
        refine PW.ret ⟨_, rfl, Fin.base (.id' ?_ (.bool _))⟩
        rw [heq]
        simp [slot, Nat.beq]; omega
      · have h5 := of_decide_eq_false h
        refine PW.skip ?_
        (repeat refine PW.seq ?_); refine PW.rg rfl fun K hK => ?_; simp (disch := omega) only [go_sem, ↓reduceIte, reduceCtorEq, pappend, plen]; refine hK _ _ ?_; clear hK K
        refine PL.at [5, 6] (ih (64 - (k + 1)) (by omega) (k + 1) (by omega) ?_ rfl) rfl rfl
        rw [heq]; simp; omega
    · have h4 : ¬ k < 64 := by have := of_decide_eq_false h; omega
      rw [if_neg (by omega)] at heq
      refine PW.exit ?_
      (repeat refine PW.seq ?_); refine PW.rg rfl fun K hK => ?_; simp (disch := omega) only [go_sem, ↓reduceIte, reduceCtorEq, pappend, plen]; refine hK _ _ ?_; clear hK K
      refine PW.ret ⟨_, rfl, Fin.base (.id' ?_ (.bool _))⟩
      rw [heq]; rfl
theorem mx_ref (m : List UInt8) (H : Heap) (hl : m.length = 64) : CallOk Tryz.prog 35 [.agg (bs m)] H (.bool (mxOk m)) H := by
  refine CallOk.body (F0 := [(0, .agg (bs m))]) Tryz.func35 rfl Tryz.ntmps35 Tryz.results35 rfl (by kernel_rfl) rfl ?_
  have hall : (bs m).all PV.cell = true := by simp [bs, PV.cell]
  (repeat refine PW.seq ?_); refine PW.rg rfl fun K hK => ?_; simp (disch := omega) only [go_sem, ↓reduceIte, reduceCtorEq, pappend, plen, hall]; refine hK _ _ ?_; clear hK K
  (repeat refine PW.seq ?_); refine PW.rg rfl fun K hK => ?_; simp (disch := omega) only [go_sem, ↓reduceIte, reduceCtorEq, pappend, plen]; refine hK _ _ ?_; clear hK K
  (repeat refine PW.seq ?_); refine PW.block (PW.loop ?_)
  suffices hloop : ∀ (k : Nat), k ≤ 64 → mxOk m = (m.drop k).all (fun b => decide (8 ≤ b.toNat)) → PL Tryz.prog _ _ [(1, .ptr H.length 0 0), (3, .int .i64 (k : Int))] (H ++ [⟨36, 0, bs m⟩]) _ by
    exact PL.at [1, 3] (hloop 0 (by omega) (by simp [mxOk])) rfl rfl
  intro k hk heq
  induction hm : 64 - k using Nat.strongRecOn generalizing k with
  | _ n ih =>
    rw [mxOk_at m k (by omega)] at heq
    refine PL.round ?_; (repeat refine PW.seq ?_); refine PW.rg rfl fun K hK => ?_; simp (disch := omega) only [go_sem, ↓reduceIte, reduceCtorEq, pappend, plen]; refine hK _ _ ?_; clear hK K
    (repeat refine PW.seq ?_); refine PW.cond (t := _) rfl (fun h => ?_) (fun h => ?_)
    · have h4 : k < 64 := by have := of_decide_eq_true h; omega
      rw [if_pos (by omega)] at heq
      refine PW.skip ?_; (repeat refine PW.seq ?_); refine PW.block ?_; (repeat refine PW.seq ?_); refine PW.rg rfl fun K hK => ?_; simp (disch := omega) only [go_sem, ↓reduceIte, reduceCtorEq, pappend, plen, bs_get]; refine hK _ _ ?_; clear hK K
      (repeat refine PW.seq ?_); refine PW.cond (t := _) rfl (fun h => ?_) (fun h => ?_)
      · have h5 := of_decide_eq_true h
        (repeat refine PW.seq ?_); refine PW.rg rfl fun K hK => ?_; simp (disch := omega) only [go_sem, ↓reduceIte, reduceCtorEq, pappend, plen]; refine hK _ _ ?_; clear hK K
        refine PW.ret ⟨_, rfl, Fin.base (.id' ?_ (.bool _))⟩
        rw [heq]
        simp [slot, Nat.beq]; omega
      · have h5 := of_decide_eq_false h
        refine PW.skip ?_
        (repeat refine PW.seq ?_); refine PW.rg rfl fun K hK => ?_; simp (disch := omega) only [go_sem, ↓reduceIte, reduceCtorEq, pappend, plen]; refine hK _ _ ?_; clear hK K
        refine PL.at [1, 3] (ih (64 - (k + 1)) (by omega) (k + 1) (by omega) ?_ rfl) rfl rfl
        rw [heq]; simp; omega
    · have h4 : ¬ k < 64 := by have := of_decide_eq_false h; omega
      rw [if_neg (by omega)] at heq
      refine PW.exit ?_
      (repeat refine PW.seq ?_); refine PW.rg rfl fun K hK => ?_; simp (disch := omega) only [go_sem, ↓reduceIte, reduceCtorEq, pappend, plen]; refine hK _ _ ?_; clear hK K
      refine PW.ret ⟨_, rfl, Fin.base (.id' ?_ (.bool _))⟩
      rw [heq]; rfl

end Go.Proofs.YtahomnplappbpaaGreatDoor.Sc

namespace Go.Proofs.YtahomnplappbpaaGreatDoor.Sc
set_option linter.all false
set_option linter.unusedVariables false
set_option linter.unusedSimpArgs false
open Pm Ty Go.RowKit

/-- A picture header. -/
structure Pi where
  ty : Int
  st : Int
  od : Int
  tf : Bool
  rp : Bool
  al : Bool
def hgt (s : Sq) (p : Pi) : Int := if p.st = 3 then s.h else s.h.tdiv 2
end Go.Proofs.YtahomnplappbpaaGreatDoor.Sc

namespace Go.Proofs.YtahomnplappbpaaGreatDoor.Lp
set_option linter.all false
set_option linter.unusedVariables false
set_option linter.unusedSimpArgs false
open Go.ChangeShapes Go.WideShapes Go.ChangeAt Go.RowKit Pm Sc

theorem own : ownKnob Tryz.prog.godebug = none := by kernel_rfl
theorem laidOut : laidOutB Tryz.prog = true := by kernel_rfl

theorem bytes_of {zs : List Int} (hw : ∀ z ∈ zs, (Lit.int .u8 z).wf = true) : ∃ p : List UInt8, zs.map (PV.int .u8) = bs p ∧ p.length = zs.length := by
  refine ⟨zs.map fun z => UInt8.ofNat z.toNat, ?_, by simp⟩
  simp only [bs, List.map_map]
  refine List.map_congr_left fun z hz => ?_
  have h1 := hw z hz
  simp [Lit.wf, IntKind.min, IntKind.max, IntKind.signed, IntKind.bits] at h1
  simp only [Function.comp, UInt8.toNat_ofNat']
  congr 1
  omega
theorem shp_bytes {ps : List PV} (h : Shp Tryz.prog 51 ps) : ∃ p : List UInt8, ps = [.slice (bs p) p.length false] := by
  obtain ⟨zs, rfl, _, hw⟩ := h.of_ints Tryz.underlying51 Tryz.underlying5
  obtain ⟨p, e, hl⟩ := bytes_of hw
  exact ⟨p, by rw [e, hl]⟩
theorem shp_mx {ps : List PV} (h : Shp Tryz.prog 36 ps) : ∃ p : List UInt8, ps = bs p ∧ p.length = 64 := by
  obtain ⟨zs, rfl, hl, hw⟩ := h.arr_ints Tryz.underlying36 Tryz.underlying5
  obtain ⟨p, e, hl'⟩ := bytes_of hw
  exact ⟨p, e, by omega⟩
theorem shp_int {ps : List PV} (h : Shp Tryz.prog 3 ps) : ∃ n : Int, ps = [.int .i64 n] ∧ (-9223372036854775808 ≤ n ∧ n ≤ 9223372036854775807) := by
  obtain ⟨n, rfl, hw⟩ := h.of_int Tryz.underlying3
  simp [Lit.wf, IntKind.min, IntKind.max, IntKind.signed, IntKind.bits] at hw
  exact ⟨n, rfl, hw⟩
theorem shp_int64 {ps : List PV} (h : Shp Tryz.prog 2 ps) : ∃ n : Int, ps = [.int .i64 n] ∧ (-9223372036854775808 ≤ n ∧ n ≤ 9223372036854775807) := by
  obtain ⟨n, rfl, hw⟩ := h.of_int Tryz.underlying2
  simp [Lit.wf, IntKind.min, IntKind.max, IntKind.signed, IntKind.bits] at hw
  exact ⟨n, rfl, hw⟩
theorem shp_bool {ps : List PV} (h : Shp Tryz.prog 4 ps) : ∃ b, ps = [.bool b] := h.of_bool Tryz.underlying4
theorem shp_rat {ps : List PV} (h : Shp Tryz.prog 35 ps) : ∃ a b : Int, ps = [.int .i64 a, .int .i64 b] ∧ (-9223372036854775808 ≤ a ∧ a ≤ 9223372036854775807) ∧ (-9223372036854775808 ≤ b ∧ b ≤ 9223372036854775807) := by
  obtain ⟨pss, rfl, hf⟩ := h.fields Tryz.underlying35
  match pss, hf with
  | [a, b], ⟨ha, hb, _⟩ =>
    obtain ⟨a, rfl, h1⟩ := shp_int64 ha
    obtain ⟨b, rfl, h2⟩ := shp_int64 hb
    exact ⟨a, b, rfl, h1, h2⟩
theorem shp_seq {ps : List PV} (h : Shp Tryz.prog 38 ps) : ∃ s : Sq, ps = sqc s ∧ SqOk s := by
  obtain ⟨pss, rfl, hf⟩ := h.fields Tryz.underlying38
  match pss, hf with
  | [a, b, c, d, e, f, g, k], ⟨ha, hb, hc, hd, he, hf, hg, hk, _⟩ =>
    obtain ⟨a, rfl, h1⟩ := shp_int ha
    obtain ⟨b, rfl, h2⟩ := shp_int hb
    obtain ⟨n, m, rfl, h3, h4⟩ := shp_rat hc
    obtain ⟨d, rfl⟩ := shp_bool hd
    obtain ⟨e, rfl, h5⟩ := shp_int he
    obtain ⟨f, rfl, h6⟩ := shp_int hf
    obtain ⟨p, rfl, h7⟩ := shp_mx hg
    obtain ⟨q, rfl, h8⟩ := shp_mx hk
    exact ⟨⟨a, b, n, m, d, e, f, p, q⟩, by simp [sqc], ⟨h1, h2, h3, h4, h5, h6, h7, h8⟩⟩
end Go.Proofs.YtahomnplappbpaaGreatDoor.Lp

namespace Go.Proofs.YtahomnplappbpaaGreatDoor.Sc
set_option linter.all false
set_option linter.unusedVariables false
set_option linter.unusedSimpArgs false
open Pm Ty Go.RowKit

/-- A context. -/
structure Cx where
  t : Int
  s : Int
  i : Bool
  n : Bool
def cxc (c : Cx) : List PV := [.int .i64 c.t, .int .i64 c.s, .bool c.i, .bool c.n]
def vcx (c : Cx) : Bool := decide (1 ≤ c.t) && (decide (c.t ≤ 3) && (decide (1 ≤ c.s) && (decide (c.s ≤ 3) && (if c.s = 3 then !c.n else c.i))))
def fcx (c : Cx) : Bool := decide (c.s ≠ 3)
def bcx (c : Cx) : Bool := c.i && decide (c.s = 3)
/-- A macroblock. -/
structure Mb where
  k : Int
  ua : Bool
  ub : Bool
  fp : Bool
  fd : Bool
  va : Int
  vb : Int
  vc : Int
  vd : Int
  ve : Int
  vf : Int
  vg : Int
  vh : Int
  sa : Int
  sb : Int
  sc : Int
  sd : Int
  dl : Int
  ca : Bool
  cb : Bool
  cc : Bool
  cd : Bool
  ce : Bool
  cf : Bool
  lv : List Int
def mbc (m : Mb) : List PV := .int .i64 m.k :: .bool m.ua :: .bool m.ub :: .bool m.fp :: .bool m.fd :: .int .i64 m.va :: .int .i64 m.vb :: .int .i64 m.vc :: .int .i64 m.vd :: .int .i64 m.ve :: .int .i64 m.vf :: .int .i64 m.vg :: .int .i64 m.vh :: .int .i64 m.sa :: .int .i64 m.sb :: .int .i64 m.sc :: .int .i64 m.sd :: .int .i64 m.dl :: .bool m.ca :: .bool m.cb :: .bool m.cc :: .bool m.cd :: .bool m.ce :: .bool m.cf :: is m.lv
/-- Its block in memory. -/
def mB (m : Mb) : Blk := ⟨50, 0, mbc m⟩
def anyC (m : Mb) : Bool := m.ca || (m.cb || (m.cc || (m.cd || (m.ce || m.cf))))
def hlM (m : Mb) : Bool := decide (m.k = 1) || anyC m
def win (x n : Int) : Bool := decide (-n ≤ x) && decide (x ≤ n)
def fch (c : Cx) (m : Mb) : Bool := if hlM m then (bcx c || !m.fd) && win m.dl 30 else !m.fd && decide (m.dl = 0)

theorem vcx_ok (c : Cx) (H : Heap) : CallOk Tryz.prog 148 [.agg (cxc c)] H (.bool (vcx c)) H := by
  obtain ⟨t, s, i, n⟩ := c
  refine CallOk.body (F0 := [(0, .agg [.int .i64 t, .int .i64 s, .bool i, .bool n])]) Tryz.func148 rfl Tryz.ntmps148 Tryz.results148 rfl (by kernel_rfl) rfl ?_
  (repeat' (first | refine PW.seq ?_ | refine PW.skip ?_ | refine PW.block ?_ | (refine PW.rg rfl fun K hK => ?_; simp (disch := omega) only [go_sem, ↓reduceIte, reduceCtorEq, pappend, plen]) | (refine PW.draw mix (by kernel_rfl) fun K hK => ?_; simp (disch := omega) only [go_sem, ↓reduceIte, reduceCtorEq, pappend, plen]) | (refine PW.drawg mix (by kernel_rfl) fun K hK => ?_; simp (disch := omega) only [go_sem, ↓reduceIte, reduceCtorEq, pappend, plen]) | (refine PW.drawt [] [] mix (by kernel_rfl) fun K hK => ?_; simp (disch := omega) only [go_sem, ↓reduceIte, reduceCtorEq, pappend, plen]) | ((first | refine VO_cond ?_ ?_ | refine VOd_cond ?_ ?_ | refine VOg_cond ?_ ?_ | refine VOh_cond ?_ ?_ | refine VOi_cond ?_ ?_ | refine And.intro ?_ ?_) <;> intro h <;> (try simp only [Bool.not_eq_true', Bool.not_eq_false', decide_eq_true_eq, decide_eq_false_iff_not] at h) <;> simp (disch := omega) only [go_sem, ↓reduceIte, reduceCtorEq, pappend, plen, h]) | (refine hK _ _ ?_; clear hK K) | (refine PW.cond (t := _) rfl (fun h => ?_) (fun h => ?_) <;> (try (cases h; done)) <;> (try simp only [Bool.not_eq_true', Bool.not_eq_false', decide_eq_true_eq, decide_eq_false_iff_not] at h))))
  all_goals ((refine PW.ret ⟨_, rfl, ?_⟩; first | refine .inl ⟨?_, rfl⟩ | refine Fin.base (.id' ?_ (.bool _)) | refine Fin.base (.id' ?_ (.int _ _))); (simp_all [vcx, slot, Nat.beq] <;> first | rfl | omega | (rw [Bool.eq_iff_iff]; simp; done) | (rw [Bool.eq_iff_iff]; simp; omega)))
theorem vcx_ref (c : Cx) (H : Heap) : CallOk Tryz.prog 83 [.agg (cxc c)] H (.bool (vcx c)) H := by
  obtain ⟨t, s, i, n⟩ := c
  refine CallOk.body (F0 := [(0, .agg [.int .i64 t, .int .i64 s, .bool i, .bool n])]) Tryz.func83 rfl Tryz.ntmps83 Tryz.results83 rfl (by kernel_rfl) rfl ?_
  (repeat' (first | refine PW.seq ?_ | refine PW.skip ?_ | refine PW.block ?_ | (refine PW.rg rfl fun K hK => ?_; simp (disch := omega) only [go_sem, ↓reduceIte, reduceCtorEq, pappend, plen]) | (refine PW.draw mix (by kernel_rfl) fun K hK => ?_; simp (disch := omega) only [go_sem, ↓reduceIte, reduceCtorEq, pappend, plen]) | (refine PW.drawg mix (by kernel_rfl) fun K hK => ?_; simp (disch := omega) only [go_sem, ↓reduceIte, reduceCtorEq, pappend, plen]) | (refine PW.drawt [] [] mix (by kernel_rfl) fun K hK => ?_; simp (disch := omega) only [go_sem, ↓reduceIte, reduceCtorEq, pappend, plen]) | ((first | refine VO_cond ?_ ?_ | refine VOd_cond ?_ ?_ | refine VOg_cond ?_ ?_ | refine VOh_cond ?_ ?_ | refine VOi_cond ?_ ?_ | refine And.intro ?_ ?_) <;> intro h <;> (try simp only [Bool.not_eq_true', Bool.not_eq_false', decide_eq_true_eq, decide_eq_false_iff_not] at h) <;> simp (disch := omega) only [go_sem, ↓reduceIte, reduceCtorEq, pappend, plen, h]) | (refine hK _ _ ?_; clear hK K) | (refine PW.cond (t := _) rfl (fun h => ?_) (fun h => ?_) <;> (try (cases h; done)) <;> (try simp only [Bool.not_eq_true', Bool.not_eq_false', decide_eq_true_eq, decide_eq_false_iff_not] at h))))
  all_goals ((refine PW.ret ⟨_, rfl, ?_⟩; first | refine .inl ⟨?_, rfl⟩ | refine Fin.base (.id' ?_ (.bool _)) | refine Fin.base (.id' ?_ (.int _ _))); cases i <;> cases n <;> (simp_all [vcx, slot, Nat.beq] <;> first | rfl | omega | (rw [Bool.eq_iff_iff]; simp; done) | (rw [Bool.eq_iff_iff]; simp; omega)))
theorem fcx_ok (c : Cx) (H : Heap) : CallOk Tryz.prog 161 [.agg (cxc c)] H (.bool (fcx c)) H := by
  obtain ⟨t, s, i, n⟩ := c
  refine CallOk.body (F0 := [(0, .agg [.int .i64 t, .int .i64 s, .bool i, .bool n])]) Tryz.func161 rfl Tryz.ntmps161 Tryz.results161 rfl (by kernel_rfl) rfl ?_
  (repeat' (first | refine PW.seq ?_ | refine PW.skip ?_ | refine PW.block ?_ | (refine PW.rg rfl fun K hK => ?_; simp (disch := omega) only [go_sem, ↓reduceIte, reduceCtorEq, pappend, plen]) | (refine PW.draw mix (by kernel_rfl) fun K hK => ?_; simp (disch := omega) only [go_sem, ↓reduceIte, reduceCtorEq, pappend, plen]) | (refine PW.drawg mix (by kernel_rfl) fun K hK => ?_; simp (disch := omega) only [go_sem, ↓reduceIte, reduceCtorEq, pappend, plen]) | (refine PW.drawt [] [] mix (by kernel_rfl) fun K hK => ?_; simp (disch := omega) only [go_sem, ↓reduceIte, reduceCtorEq, pappend, plen]) | ((first | refine VO_cond ?_ ?_ | refine VOd_cond ?_ ?_ | refine VOg_cond ?_ ?_ | refine VOh_cond ?_ ?_ | refine VOi_cond ?_ ?_ | refine And.intro ?_ ?_) <;> intro h <;> (try simp only [Bool.not_eq_true', Bool.not_eq_false', decide_eq_true_eq, decide_eq_false_iff_not] at h) <;> simp (disch := omega) only [go_sem, ↓reduceIte, reduceCtorEq, pappend, plen, h]) | (refine hK _ _ ?_; clear hK K) | (refine PW.cond (t := _) rfl (fun h => ?_) (fun h => ?_) <;> (try (cases h; done)) <;> (try simp only [Bool.not_eq_true', Bool.not_eq_false', decide_eq_true_eq, decide_eq_false_iff_not] at h))))
  all_goals ((refine PW.ret ⟨_, rfl, ?_⟩; first | refine .inl ⟨?_, rfl⟩ | refine Fin.base (.id' ?_ (.bool _)) | refine Fin.base (.id' ?_ (.int _ _))); (simp_all [fcx, slot, Nat.beq] <;> first | rfl | omega | (rw [Bool.eq_iff_iff]; simp; done) | (rw [Bool.eq_iff_iff]; simp; omega)))
theorem fcx_ref (c : Cx) (H : Heap) : CallOk Tryz.prog 171 [.agg (cxc c)] H (.bool (fcx c)) H := by
  obtain ⟨t, s, i, n⟩ := c
  refine CallOk.body (F0 := [(0, .agg [.int .i64 t, .int .i64 s, .bool i, .bool n])]) Tryz.func171 rfl Tryz.ntmps171 Tryz.results171 rfl (by kernel_rfl) rfl ?_
  (repeat' (first | refine PW.seq ?_ | refine PW.skip ?_ | refine PW.block ?_ | (refine PW.rg rfl fun K hK => ?_; simp (disch := omega) only [go_sem, ↓reduceIte, reduceCtorEq, pappend, plen]) | (refine PW.draw mix (by kernel_rfl) fun K hK => ?_; simp (disch := omega) only [go_sem, ↓reduceIte, reduceCtorEq, pappend, plen]) | (refine PW.drawg mix (by kernel_rfl) fun K hK => ?_; simp (disch := omega) only [go_sem, ↓reduceIte, reduceCtorEq, pappend, plen]) | (refine PW.drawt [] [] mix (by kernel_rfl) fun K hK => ?_; simp (disch := omega) only [go_sem, ↓reduceIte, reduceCtorEq, pappend, plen]) | ((first | refine VO_cond ?_ ?_ | refine VOd_cond ?_ ?_ | refine VOg_cond ?_ ?_ | refine VOh_cond ?_ ?_ | refine VOi_cond ?_ ?_ | refine And.intro ?_ ?_) <;> intro h <;> (try simp only [Bool.not_eq_true', Bool.not_eq_false', decide_eq_true_eq, decide_eq_false_iff_not] at h) <;> simp (disch := omega) only [go_sem, ↓reduceIte, reduceCtorEq, pappend, plen, h]) | (refine hK _ _ ?_; clear hK K) | (refine PW.cond (t := _) rfl (fun h => ?_) (fun h => ?_) <;> (try (cases h; done)) <;> (try simp only [Bool.not_eq_true', Bool.not_eq_false', decide_eq_true_eq, decide_eq_false_iff_not] at h))))
  all_goals ((refine PW.ret ⟨_, rfl, ?_⟩; first | refine .inl ⟨?_, rfl⟩ | refine Fin.base (.id' ?_ (.bool _)) | refine Fin.base (.id' ?_ (.int _ _))); (simp_all [fcx, slot, Nat.beq] <;> first | rfl | omega | (rw [Bool.eq_iff_iff]; simp; done) | (rw [Bool.eq_iff_iff]; simp; omega)))
theorem bcx_ok (c : Cx) (H : Heap) : CallOk Tryz.prog 179 [.agg (cxc c)] H (.bool (bcx c)) H := by
  obtain ⟨t, s, i, n⟩ := c
  refine CallOk.body (F0 := [(0, .agg [.int .i64 t, .int .i64 s, .bool i, .bool n])]) Tryz.func179 rfl Tryz.ntmps179 Tryz.results179 rfl (by kernel_rfl) rfl ?_
  (repeat' (first | refine PW.seq ?_ | refine PW.skip ?_ | refine PW.block ?_ | (refine PW.rg rfl fun K hK => ?_; simp (disch := omega) only [go_sem, ↓reduceIte, reduceCtorEq, pappend, plen]) | (refine PW.draw mix (by kernel_rfl) fun K hK => ?_; simp (disch := omega) only [go_sem, ↓reduceIte, reduceCtorEq, pappend, plen]) | (refine PW.drawg mix (by kernel_rfl) fun K hK => ?_; simp (disch := omega) only [go_sem, ↓reduceIte, reduceCtorEq, pappend, plen]) | (refine PW.drawt [] [] mix (by kernel_rfl) fun K hK => ?_; simp (disch := omega) only [go_sem, ↓reduceIte, reduceCtorEq, pappend, plen]) | ((first | refine VO_cond ?_ ?_ | refine VOd_cond ?_ ?_ | refine VOg_cond ?_ ?_ | refine VOh_cond ?_ ?_ | refine VOi_cond ?_ ?_ | refine And.intro ?_ ?_) <;> intro h <;> (try simp only [Bool.not_eq_true', Bool.not_eq_false', decide_eq_true_eq, decide_eq_false_iff_not] at h) <;> simp (disch := omega) only [go_sem, ↓reduceIte, reduceCtorEq, pappend, plen, h]) | (refine hK _ _ ?_; clear hK K) | (refine PW.cond (t := _) rfl (fun h => ?_) (fun h => ?_) <;> (try (cases h; done)) <;> (try simp only [Bool.not_eq_true', Bool.not_eq_false', decide_eq_true_eq, decide_eq_false_iff_not] at h))))
  all_goals ((refine PW.ret ⟨_, rfl, ?_⟩; first | refine .inl ⟨?_, rfl⟩ | refine Fin.base (.id' ?_ (.bool _)) | refine Fin.base (.id' ?_ (.int _ _))); (simp_all [bcx, slot, Nat.beq] <;> first | rfl | omega | (rw [Bool.eq_iff_iff]; simp; done) | (rw [Bool.eq_iff_iff]; simp; omega)))
theorem bcx_ref (c : Cx) (H : Heap) : CallOk Tryz.prog 84 [.agg (cxc c)] H (.bool (bcx c)) H := by
  obtain ⟨t, s, i, n⟩ := c
  refine CallOk.body (F0 := [(0, .agg [.int .i64 t, .int .i64 s, .bool i, .bool n])]) Tryz.func84 rfl Tryz.ntmps84 Tryz.results84 rfl (by kernel_rfl) rfl ?_
  (repeat' (first | refine PW.seq ?_ | refine PW.skip ?_ | refine PW.block ?_ | (refine PW.rg rfl fun K hK => ?_; simp (disch := omega) only [go_sem, ↓reduceIte, reduceCtorEq, pappend, plen]) | (refine PW.draw mix (by kernel_rfl) fun K hK => ?_; simp (disch := omega) only [go_sem, ↓reduceIte, reduceCtorEq, pappend, plen]) | (refine PW.drawg mix (by kernel_rfl) fun K hK => ?_; simp (disch := omega) only [go_sem, ↓reduceIte, reduceCtorEq, pappend, plen]) | (refine PW.drawt [] [] mix (by kernel_rfl) fun K hK => ?_; simp (disch := omega) only [go_sem, ↓reduceIte, reduceCtorEq, pappend, plen]) | ((first | refine VO_cond ?_ ?_ | refine VOd_cond ?_ ?_ | refine VOg_cond ?_ ?_ | refine VOh_cond ?_ ?_ | refine VOi_cond ?_ ?_ | refine And.intro ?_ ?_) <;> intro h <;> (try simp only [Bool.not_eq_true', Bool.not_eq_false', decide_eq_true_eq, decide_eq_false_iff_not] at h) <;> simp (disch := omega) only [go_sem, ↓reduceIte, reduceCtorEq, pappend, plen, h]) | (refine hK _ _ ?_; clear hK K) | (refine PW.cond (t := _) rfl (fun h => ?_) (fun h => ?_) <;> (try (cases h; done)) <;> (try simp only [Bool.not_eq_true', Bool.not_eq_false', decide_eq_true_eq, decide_eq_false_iff_not] at h))))
  all_goals ((refine PW.ret ⟨_, rfl, ?_⟩; first | refine .inl ⟨?_, rfl⟩ | refine Fin.base (.id' ?_ (.bool _)) | refine Fin.base (.id' ?_ (.int _ _))); (simp_all [bcx, slot, Nat.beq] <;> first | rfl | omega | (rw [Bool.eq_iff_iff]; simp; done) | (rw [Bool.eq_iff_iff]; simp; omega)))
theorem win_ok (x n : Int) (H : Heap) (hn : 0 ≤ n ∧ n ≤ 10000) : CallOk Tryz.prog 175 [.int .i64 x, .int .i64 n] H (.bool (win x n)) H := by
  refine CallOk.body (F0 := [(0, .int .i64 x), (1, .int .i64 n)]) Tryz.func175 rfl Tryz.ntmps175 Tryz.results175 rfl (by kernel_rfl) rfl ?_
  (repeat' (first | refine PW.seq ?_ | refine PW.skip ?_ | refine PW.block ?_ | (refine PW.rg rfl fun K hK => ?_; simp (disch := omega) only [go_sem, ↓reduceIte, reduceCtorEq, pappend, plen]) | (refine PW.draw mix (by kernel_rfl) fun K hK => ?_; simp (disch := omega) only [go_sem, ↓reduceIte, reduceCtorEq, pappend, plen]) | (refine PW.drawg mix (by kernel_rfl) fun K hK => ?_; simp (disch := omega) only [go_sem, ↓reduceIte, reduceCtorEq, pappend, plen]) | (refine PW.drawt [] [] mix (by kernel_rfl) fun K hK => ?_; simp (disch := omega) only [go_sem, ↓reduceIte, reduceCtorEq, pappend, plen]) | ((first | refine VO_cond ?_ ?_ | refine VOd_cond ?_ ?_ | refine VOg_cond ?_ ?_ | refine VOh_cond ?_ ?_ | refine VOi_cond ?_ ?_ | refine And.intro ?_ ?_) <;> intro h <;> (try simp only [Bool.not_eq_true', Bool.not_eq_false', decide_eq_true_eq, decide_eq_false_iff_not] at h) <;> simp (disch := omega) only [go_sem, ↓reduceIte, reduceCtorEq, pappend, plen, h]) | (refine hK _ _ ?_; clear hK K) | (refine PW.cond (t := _) rfl (fun h => ?_) (fun h => ?_) <;> (try (cases h; done)) <;> (try simp only [Bool.not_eq_true', Bool.not_eq_false', decide_eq_true_eq, decide_eq_false_iff_not] at h))))
  all_goals ((refine PW.ret ⟨_, rfl, ?_⟩; first | refine .inl ⟨?_, rfl⟩ | refine Fin.base (.id' ?_ (.bool _)) | refine Fin.base (.id' ?_ (.int _ _))); (simp_all [win, slot, Nat.beq] <;> first | rfl | omega | (rw [Bool.eq_iff_iff]; simp; done) | (rw [Bool.eq_iff_iff]; simp; omega)))
theorem win_ref (x : Int) (H : Heap) : CallOk Tryz.prog 168 [.int .i64 x] H (.bool (win x 4095)) H := by
  refine CallOk.body (F0 := [(0, .int .i64 x)]) Tryz.func168 rfl Tryz.ntmps168 Tryz.results168 rfl (by kernel_rfl) rfl ?_
  (repeat' (first | refine PW.seq ?_ | refine PW.skip ?_ | refine PW.block ?_ | (refine PW.rg rfl fun K hK => ?_; simp (disch := omega) only [go_sem, ↓reduceIte, reduceCtorEq, pappend, plen]) | (refine PW.draw mix (by kernel_rfl) fun K hK => ?_; simp (disch := omega) only [go_sem, ↓reduceIte, reduceCtorEq, pappend, plen]) | (refine PW.drawg mix (by kernel_rfl) fun K hK => ?_; simp (disch := omega) only [go_sem, ↓reduceIte, reduceCtorEq, pappend, plen]) | (refine PW.drawt [] [] mix (by kernel_rfl) fun K hK => ?_; simp (disch := omega) only [go_sem, ↓reduceIte, reduceCtorEq, pappend, plen]) | ((first | refine VO_cond ?_ ?_ | refine VOd_cond ?_ ?_ | refine VOg_cond ?_ ?_ | refine VOh_cond ?_ ?_ | refine VOi_cond ?_ ?_ | refine And.intro ?_ ?_) <;> intro h <;> (try simp only [Bool.not_eq_true', Bool.not_eq_false', decide_eq_true_eq, decide_eq_false_iff_not] at h) <;> simp (disch := omega) only [go_sem, ↓reduceIte, reduceCtorEq, pappend, plen, h]) | (refine hK _ _ ?_; clear hK K) | (refine PW.cond (t := _) rfl (fun h => ?_) (fun h => ?_) <;> (try (cases h; done)) <;> (try simp only [Bool.not_eq_true', Bool.not_eq_false', decide_eq_true_eq, decide_eq_false_iff_not] at h))))
  all_goals ((refine PW.ret ⟨_, rfl, ?_⟩; first | refine .inl ⟨?_, rfl⟩ | refine Fin.base (.id' ?_ (.bool _)) | refine Fin.base (.id' ?_ (.int _ _))); (simp_all [win, slot, Nat.beq] <;> first | rfl | omega | (rw [Bool.eq_iff_iff]; simp; done) | (rw [Bool.eq_iff_iff]; simp; omega)))
def vrg (x y : Int) : Bool := win x 63 && win y 63

end Go.Proofs.YtahomnplappbpaaGreatDoor.Sc
