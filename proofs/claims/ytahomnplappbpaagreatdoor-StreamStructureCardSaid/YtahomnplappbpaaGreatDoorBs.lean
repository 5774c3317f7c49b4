/-
  Bytes and integers as cells.
-/
import Derived.Test.YtahomnplappbpaaGreatDoorTy
namespace Go.Proofs.YtahomnplappbpaaGreatDoor.Sc
set_option linter.all false
set_option linter.unusedVariables false
set_option linter.unusedSimpArgs false
open Pm Ty Go.RowKit

/-- Bytes as cells. -/
def bs (p : List UInt8) : List PV := p.map fun b => .int .u8 (b.toNat : Int)
theorem length_bs (p : List UInt8) : (bs p).length = p.length := by simp [bs]
def byt (p : List UInt8) (k : Nat) : Int := ((p.getD k 0).toNat : Int)
theorem byt_range (p : List UInt8) (k : Nat) : 0 ≤ byt p k ∧ byt p k ≤ 255 := by
  unfold byt
  have := (p.getD k 0).toNat_lt
  omega
theorem bs_get (p : List UInt8) (k : Nat) (h : k < p.length) : (bs p)[k]? = some (.int .u8 (byt p k)) := by
  simp [bs, byt, h]
theorem pbytes_bs (p : List UInt8) : pbytes (bs p) = some p := by
  unfold pbytes bs
  induction p with
  | nil => rfl
  | cons b p ih => simp [List.mapM_cons, Pm.byteOf, ih]
theorem bs_nil : bs [] = [] := rfl
theorem bs_append (p q : List UInt8) : bs (p ++ q) = bs p ++ bs q := by simp [bs]
theorem bs_still (p : List UInt8) : ∀ x ∈ bs p, Still x := fun x hx => by
  obtain ⟨b, _, rfl⟩ := List.mem_map.1 hx
  exact .int _ _
theorem take_succ_byte (p : List UInt8) (k : Nat) (h : k < p.length) : p.take (k + 1) = p.take k ++ [p.getD k 0] := by
  rw [List.take_succ_eq_append_getElem h]
  simp [h]
theorem bs_one (b : UInt8) : bs [b] = [.int .u8 (b.toNat : Int)] := rfl
theorem bs_rep (n : Nat) : bs (List.replicate n 0) = List.replicate n (.int .u8 0) := by simp [bs]
theorem bs_scoped (n : Nat) (p : List UInt8) : ∀ x ∈ bs p, Scoped n x := fun x hx => by
  obtain ⟨b, _, rfl⟩ := List.mem_map.1 hx
  exact .int _ _
theorem sl_scoped {n k : Nat} {xs : List PV} {f : Bool} (h : ∀ x ∈ xs, Scoped n x) : Scoped n (.slice xs k f) := .slice fun j x hx => h x (List.mem_of_getElem? hx)
theorem ag_scoped {n : Nat} {xs : List PV} (h : ∀ x ∈ xs, Scoped n x) : Scoped n (.agg xs) := .agg fun j x hx => h x (List.mem_of_getElem? hx)
theorem _root_.Go.Proofs.YtahomnplappbpaaGreatDoor.Pm.Fz.id' {n : Nat} {H : Heap} {x y : PV} (e : x = y) (h : Scoped n y) : Fz n H x y := e ▸ .id (e ▸ h)
theorem bs_set (b : List UInt8) (i : Nat) (v : UInt8) : (bs b).set i (.int .u8 (v.toNat : Int)) = bs (b.set i v) := by
  simp [bs, List.map_set]
theorem u8_wrap (n : Int) : ∃ v : UInt8, IntKind.u8.wrap n = (v.toNat : Int) := by
  have h : 0 ≤ IntKind.u8.wrap n ∧ IntKind.u8.wrap n ≤ 255 := by
    simp [IntKind.wrap, IntKind.bits, IntKind.signed]
    omega
  exact ⟨UInt8.ofNat (IntKind.u8.wrap n).toNat, by simp; omega⟩
theorem bs_drop (p : List UInt8) (k : Nat) : (bs p).drop k = bs (p.drop k) := by simp [bs]
theorem bs_take (p : List UInt8) (k : Nat) : (bs p).take k = bs (p.take k) := by simp [bs]
theorem bs_inj {p q : List UInt8} (h : bs p = bs q) : p = q := by
  have h1 := pbytes_bs p
  rw [h, pbytes_bs] at h1
  exact (Option.some.inj h1).symm
/-- == of two lists of bytes, cell by cell. -/
theorem peqI_bs (k : IntKind) : ∀ (p q : List UInt8), p.length = q.length → peqI (.int k) (bs p) (bs q) = some (p == q)
  | [], [], _ => rfl
  | a :: p, b :: q, h => by
    have ih := peqI_bs k p q (by simpa using h)
    have e : ((a.toNat : Int) == (b.toNat : Int)) = (a == b) := by
      rw [Bool.eq_iff_iff]; simp only [beq_iff_eq]
      exact ⟨fun h => UInt8.toNat_inj.1 (by omega), fun h => by rw [h]⟩
    show (match peqS (.int k) (.int .u8 (a.toNat : Int)) (.int .u8 (b.toNat : Int)) with | some c => (peqI (.int k) (bs p) (bs q)).map fun r => c && r | none => none) = _
    rw [ih]
    simp only [peqS, if_true, Option.map_some, e]
    rfl
  | [], _ :: _, h => by simp at h
  | _ :: _, [], h => by simp at h

theorem tdiv_abs (a b : Int) : -(a.natAbs : Int) ≤ a.tdiv b ∧ a.tdiv b ≤ (a.natAbs : Int) := by
  have h : (a.tdiv b).natAbs ≤ a.natAbs := by rw [Int.natAbs_tdiv]; exact Nat.div_le_self _ _
  omega
/-- A quotient does not wrap. -/
theorem wq64 (a b : Int) (h : -9223372036854775807 ≤ a ∧ a ≤ 9223372036854775807) : IntKind.i64.wrap (a.tdiv b) = a.tdiv b := by
  have := tdiv_abs a b
  exact w64 _ (by omega)
theorem tmodN (x y : Nat) : (x : Int).tmod (y : Int) = ((x % y : Nat) : Int) := by rw [Int.tmod_eq_emod_of_nonneg (by omega)]; rfl
theorem tdivN (a b : Nat) : (a : Int).tdiv (b : Int) = ((a / b : Nat) : Int) := rfl
theorem tdiv_pos (a b : Int) (h : 0 ≤ a) : a.tdiv b = a / b := Int.tdiv_eq_ediv_of_nonneg h
theorem tmod_pos (a b : Int) (h : 0 ≤ a) : a.tmod b = a % b := Int.tmod_eq_emod_of_nonneg h

theorem wu64 (n : Int) (h : 0 ≤ n ∧ n ≤ 18446744073709551615) : IntKind.u64.wrap n = n := by
  simp only [IntKind.wrap, IntKind.bits, IntKind.signed, Bool.false_and, Bool.false_eq_true, if_false]
  omega
theorem wu64n (n : Int) (h : -18446744073709551616 ≤ n ∧ n < 0) : IntKind.u64.wrap n = n + 18446744073709551616 := by
  simp only [IntKind.wrap, IntKind.bits, IntKind.signed, Bool.false_and, Bool.false_eq_true, if_false]
  omega

/-- A list of ints as cells. -/
def is (l : List Int) : List PV := l.map fun n => .int .i64 n
theorem is_len (l : List Int) : (is l).length = l.length := by simp [is]
def intAt (l : List Int) (k : Nat) : Int := l.getD k 0
theorem is_get (l : List Int) (i : Nat) (h : i < l.length) : (is l)[i]? = some (.int .i64 (intAt l i)) := by simp [is, intAt, h]
theorem is_append (p q : List Int) : is (p ++ q) = is p ++ is q := by simp [is]
theorem is_scoped (n : Nat) (p : List Int) : ∀ x ∈ is p, Scoped n x := fun x hx => by
  obtain ⟨b, _, rfl⟩ := List.mem_map.1 hx
  exact .int _ _
theorem is_set (b : List Int) (i : Nat) (v : Int) : (is b).set i (.int .i64 v) = is (b.set i v) := by simp [is, List.map_set]
theorem is_drop (p : List Int) (k : Nat) : (is p).drop k = is (p.drop k) := by simp [is]
theorem is_take (p : List Int) (k : Nat) : (is p).take k = is (p.take k) := by simp [is]
theorem peqI_is (k : IntKind) : ∀ (p q : List Int), p.length = q.length → peqI (.int k) (is p) (is q) = some (p == q)
  | [], [], _ => rfl
  | a :: p, b :: q, h => by
    have ih := peqI_is k p q (by simpa using h)
    show (match peqS (.int k) (.int .i64 a) (.int .i64 b) with | some c => (peqI (.int k) (is p) (is q)).map fun r => c && r | none => none) = _
    rw [ih]
    simp only [peqS, if_true, Option.map_some]
    rfl
  | [], _ :: _, h => by simp at h
  | _ :: _, [], h => by simp at h

/-- A list of flags as cells. -/
def fs (l : List Bool) : List PV := l.map fun b => .bool b
theorem fs_len (l : List Bool) : (fs l).length = l.length := by simp [fs]
def flagAt (l : List Bool) (k : Nat) : Bool := l.getD k false
theorem fs_get (l : List Bool) (i : Nat) (h : i < l.length) : (fs l)[i]? = some (.bool (flagAt l i)) := by simp [fs, flagAt, h]
theorem fs_append (p q : List Bool) : fs (p ++ q) = fs p ++ fs q := by simp [fs]
theorem fs_scoped (n : Nat) (p : List Bool) : ∀ x ∈ fs p, Scoped n x := fun x hx => by
  obtain ⟨b, _, rfl⟩ := List.mem_map.1 hx
  exact .bool _
theorem fs_set (b : List Bool) (i : Nat) (v : Bool) : (fs b).set i (.bool v) = fs (b.set i v) := by simp [fs, List.map_set]

/-! ### shifts and bits -/
theorem fdivN (a b : Nat) : (a : Int).fdiv (b : Int) = ((a / b : Nat) : Int) := by
  rw [Int.fdiv_eq_ediv_of_nonneg _ (by omega)]; rfl
theorem pshr_u32 (k' : IntKind) (V s : Nat) (h : s ≤ 32) : pint .shr .u32 (V : Int) k' (s : Int) = some (.int .u32 ((V / 2 ^ s : Nat) : Int)) := by
  simp only [pint, IntKind.bits]
  rw [if_neg (by omega), show min (s : Int).toNat 32 = s by omega, show ((2 : Int) ^ s) = ((2 ^ s : Nat) : Int) by simp, fdivN]
theorem pshr_u8 (k' : IntKind) (V s : Nat) (h : s ≤ 8) : pint .shr .u8 (V : Int) k' (s : Int) = some (.int .u8 ((V / 2 ^ s : Nat) : Int)) := by
  simp only [pint, IntKind.bits]
  rw [if_neg (by omega), show min (s : Int).toNat 8 = s by omega, show ((2 : Int) ^ s) = ((2 ^ s : Nat) : Int) by simp, fdivN]
theorem pand1_u32 (V : Nat) : pint .and .u32 (V : Int) .u32 1 = some (.int .u32 ((V % 2 : Nat) : Int)) := by
  have h0 : (BitVec.ofInt 32 (V : Int) &&& BitVec.ofInt 32 1).toNat = V % 2 := by
    rw [BitVec.ofInt_natCast, BitVec.toNat_and, BitVec.toNat_ofNat, show (BitVec.ofInt 32 1).toNat = 1 by decide, Nat.and_one_is_mod]
    omega
  have : (BitVec.ofInt IntKind.u32.bits (V : Int) &&& BitVec.ofInt IntKind.u32.bits 1).toNat = V % 2 := h0
  simp only [pint, this, if_true]
  rw [w32 _ (by omega)]
theorem pand1_u8 (V : Nat) : pint .and .u8 (V : Int) .u8 1 = some (.int .u8 ((V % 2 : Nat) : Int)) := by
  have h0 : (BitVec.ofInt 8 (V : Int) &&& BitVec.ofInt 8 1).toNat = V % 2 := by
    rw [BitVec.ofInt_natCast, BitVec.toNat_and, BitVec.toNat_ofNat, show (BitVec.ofInt 8 1).toNat = 1 by decide, Nat.and_one_is_mod]
    omega
  have : (BitVec.ofInt IntKind.u8.bits (V : Int) &&& BitVec.ofInt IntKind.u8.bits 1).toNat = V % 2 := h0
  simp only [pint, this, if_true]
  rw [w8 _ (by omega)]
theorem pshl_u8 (k' : IntKind) (V s : Nat) (h : V * 2 ^ s < 256) (hs : s ≤ 8) : pint .shl .u8 (V : Int) k' (s : Int) = some (.int .u8 ((V * 2 ^ s : Nat) : Int)) := by
  simp only [pint, IntKind.bits]
  rw [if_neg (by omega), show min (s : Int).toNat 8 = s by omega, show (V : Int) * (2 : Int) ^ s = ((V * 2 ^ s : Nat) : Int) by simp, w8 _ (by omega)]
theorem or_dis : ∀ a < 256, ∀ s < 8, a % 2 ^ (s + 1) = 0 → (BitVec.ofNat 8 a ||| BitVec.ofNat 8 (2 ^ s)).toNat = a + 2 ^ s := by decide +kernel
/-- A bit is set that was 0. -/
theorem por_u8 (V s c : Nat) (h : V < 256) (hs : s < 8) (hz : V % 2 ^ (s + 1) = 0) (hc : c < 2) : pint .or .u8 (V : Int) .u8 ((c * 2 ^ s : Nat) : Int) = some (.int .u8 ((V + c * 2 ^ s : Nat) : Int)) := by
  have key0 : (BitVec.ofInt 8 (V : Int) ||| BitVec.ofInt 8 ((c * 2 ^ s : Nat) : Int)).toNat = V + c * 2 ^ s := by
    rw [BitVec.ofInt_natCast, BitVec.ofInt_natCast]
    rcases Nat.lt_or_ge c 1 with h0 | h0
    · have : c = 0 := by omega
      subst this
      rw [Nat.zero_mul, BitVec.toNat_or, BitVec.toNat_ofNat, BitVec.toNat_ofNat]
      simp
      omega
    · have : c = 1 := by omega
      subst this
      rw [Nat.one_mul]
      exact or_dis V h s hs hz
  have key : (BitVec.ofInt IntKind.u8.bits (V : Int) ||| BitVec.ofInt IntKind.u8.bits ((c * 2 ^ s : Nat) : Int)).toNat = V + c * 2 ^ s := key0
  have hlt : V + c * 2 ^ s < 256 := by
    have := BitVec.isLt (BitVec.ofInt IntKind.u8.bits (V : Int) ||| BitVec.ofInt IntKind.u8.bits ((c * 2 ^ s : Nat) : Int))
    rw [key] at this
    exact this
  simp only [pint, key, if_true]
  rw [w8 _ (by omega)]

end Go.Proofs.YtahomnplappbpaaGreatDoor.Sc
