/-
  Parts of the proof. No condition.
-/
import Derived.Test.YtbhdollgohgkgaaGreatDoorA12
import Derived.Test.YtbhdollgohgkgaaGreatDoorA07
import Derived.Test.YtbhdollgohgkgaaGreatDoorA15
namespace Go.Proofs.YtbhdollgohgkgaaGreatDoor.Sc
set_option linter.all false
set_option linter.unusedVariables false
set_option linter.unusedSimpArgs false
open Pm Ty Go.RowKit

def sk (p : Nat) : Nat := scn.getD p 0
theorem dIn_len : dIn.length = 64 := rfl
theorem dIt_len : dIt.length = 64 := rfl
theorem scn_len : scn.length = 64 := rfl
theorem sk_lt (p : Nat) (h : p < 64) : sk p < 64 := by
  have : ∀ p < 64, sk p < 64 := by decide +kernel
  exact this p h
/-- The bits of the first p elements of a matrix, in this order. -/
def mxe (m : List UInt8) : Nat → List Bool
  | 0 => []
  | p + 1 => mxe m p ++ vbits (m.getD (sk p) 0).toNat 8
theorem mxe_len (m : List UInt8) : ∀ p, (mxe m p).length = p * 8
  | 0 => rfl
  | p + 1 => by rw [mxe, List.length_append, mxe_len m p, vbits_len]; omega
def mxb (m u : List UInt8) : List Bool := if m = u then [false] else true :: mxe m 64
theorem mxb_len (m u : List UInt8) : (mxb m u).length ≤ 513 := by
  unfold mxb
  split
  · simp
  · rw [List.length_cons, mxe_len]; omega
def sbits (s : Sq) : List Bool := vbits (s.w / 16).toNat 8 ++ (vbits (s.h / 16).toNat 8 ++ (vbits s.num.toNat 32 ++ (vbits s.den.toNat 32 ++ ([s.il] ++ (vbits s.br.toNat 32 ++ (vbits s.bf.toNat 32 ++ (mxb s.ia dIn ++ mxb s.ie dIt)))))))
def putS (s : Sq) : Int × List UInt8 × Int := if vseq s then (179, pk (sbits s ++ [true]), 0) else (0, [], 1)
/-! ### reading -/
/-- A number of k bits, of a reader's place and error. 'st': after an error nothing is read any more. -/
def nm (st : Bool) (q : List UInt8) (n : Nat) (x : Nat × Nat) (k : Nat) : Nat × Nat × Nat :=
  if x.2 ≠ 0 then (0, x) else if x.1 + k ≤ n then (vl q x.1 k, x.1 + k, 0) else (0, x.1, if st then 4 else 0)
def rdE (st : Bool) (q : List UInt8) (n : Nat) (x : Nat × Nat) : Nat → List UInt8 × Nat × Nat
  | 0 => (List.replicate 64 0, x)
  | p + 1 => ((rdE st q n x p).1.set (sk p) (UInt8.ofNat (nm st q n (rdE st q n x p).2 8).1), (nm st q n (rdE st q n x p).2 8).2)
def rdM (st : Bool) (q : List UInt8) (n : Nat) (u : List UInt8) (x : Nat × Nat) : List UInt8 × Nat × Nat :=
  if (nm st q n x 1).1 = 1 then rdE st q n (nm st q n x 1).2 64 else (u, (nm st q n x 1).2)
def rw' (st : Bool) (q : List UInt8) (n : Nat) := nm st q n (0, 0) 8
def rh' (st : Bool) (q : List UInt8) (n : Nat) := nm st q n (rw' st q n).2 8
def rn' (st : Bool) (q : List UInt8) (n : Nat) := nm st q n (rh' st q n).2 32
def rd' (st : Bool) (q : List UInt8) (n : Nat) := nm st q n (rn' st q n).2 32
def ri' (st : Bool) (q : List UInt8) (n : Nat) := nm st q n (rd' st q n).2 1
def rb' (st : Bool) (q : List UInt8) (n : Nat) := nm st q n (ri' st q n).2 32
def rf' (st : Bool) (q : List UInt8) (n : Nat) := nm st q n (rb' st q n).2 32
def ra' (st : Bool) (q : List UInt8) (n : Nat) := rdM st q n dIn (rf' st q n).2
def re' (st : Bool) (q : List UInt8) (n : Nat) := rdM st q n dIt (ra' st q n).2
def rdS (st : Bool) (q : List UInt8) (n : Nat) : Sq := ⟨16 * ((rw' st q n).1 : Int), 16 * ((rh' st q n).1 : Int), ((rn' st q n).1 : Int), ((rd' st q n).1 : Int), decide ((ri' st q n).1 = 1), ((rb' st q n).1 : Int), ((rf' st q n).1 : Int), (ra' st q n).1, (re' st q n).1⟩
theorem nm_lt (st : Bool) (q : List UInt8) (n : Nat) (x : Nat × Nat) (k : Nat) : (nm st q n x k).1 < 2 ^ k := by
  unfold nm
  have h0 : 0 < 2 ^ k := Nat.pow_pos (by omega)
  split
  · exact h0
  · split
    · exact vl_lt _ _ _
    · exact h0
theorem nm_le {st : Bool} {q : List UInt8} {n : Nat} {x : Nat × Nat} {k : Nat} (h : x.1 ≤ n) : (nm st q n x k).2.1 ≤ n := by
  unfold nm
  split
  · exact h
  · split
    · assumption
    · exact h
theorem rdE_b {st : Bool} {q : List UInt8} {n : Nat} {x : Nat × Nat} (h : x.1 ≤ n) : ∀ p, (rdE st q n x p).1.length = 64 ∧ (rdE st q n x p).2.1 ≤ n
  | 0 => ⟨by simp [rdE], h⟩
  | p + 1 => by
    obtain ⟨h1, h2⟩ := rdE_b (st := st) (q := q) h p
    exact ⟨by rw [rdE, List.length_set]; exact h1, nm_le h2⟩
theorem rdM_b {st : Bool} {q : List UInt8} {n : Nat} {x : Nat × Nat} {u : List UInt8} (h : x.1 ≤ n) (hu : u.length = 64) : (rdM st q n u x).1.length = 64 ∧ (rdM st q n u x).2.1 ≤ n := by
  unfold rdM
  split
  · exact rdE_b (nm_le h) 64
  · exact ⟨hu, nm_le h⟩
theorem rf_b (st : Bool) (q : List UInt8) (n : Nat) : (rf' st q n).2.1 ≤ n := by
  have g1 : (rw' st q n).2.1 ≤ n := nm_le (Nat.zero_le _)
  have g2 : (rh' st q n).2.1 ≤ n := nm_le g1
  have g3 : (rn' st q n).2.1 ≤ n := nm_le g2
  have g4 : (rd' st q n).2.1 ≤ n := nm_le g3
  have g5 : (ri' st q n).2.1 ≤ n := nm_le g4
  have g6 : (rb' st q n).2.1 ≤ n := nm_le g5
  exact nm_le g6
theorem ra_b (st : Bool) (q : List UInt8) (n : Nat) : (ra' st q n).1.length = 64 ∧ (ra' st q n).2.1 ≤ n := by
  unfold ra'
  exact rdM_b (rf_b st q n) dIn_len
theorem re_b (st : Bool) (q : List UInt8) (n : Nat) : (re' st q n).1.length = 64 ∧ (re' st q n).2.1 ≤ n := by
  unfold re'
  exact rdM_b (ra_b st q n).2 dIt_len
theorem sq_key (a b c d e f : Nat) (i : Bool) (x y : List UInt8) (ha : a < 2 ^ 8) (hb : b < 2 ^ 8) (hc : c < 2 ^ 32) (hd : d < 2 ^ 32) (he : e < 2 ^ 32) (hf : f < 2 ^ 32) (hx : x.length = 64) (hy : y.length = 64) : SqOk ⟨16 * (a : Int), 16 * (b : Int), (c : Int), (d : Int), i, (e : Int), (f : Int), x, y⟩ := by
  refine ⟨?_, ?_, ?_, ?_, ?_, ?_, hx, hy⟩ <;> dsimp only <;> omega
theorem rdS_ok (st : Bool) (q : List UInt8) (n : Nat) : SqOk (rdS st q n) := by
  have b1 : (rw' st q n).1 < 2 ^ 8 := nm_lt st q n (0, 0) 8
  have b2 : (rh' st q n).1 < 2 ^ 8 := nm_lt st q n (rw' st q n).2 8
  have b3 : (rn' st q n).1 < 2 ^ 32 := nm_lt st q n (rh' st q n).2 32
  have b4 : (rd' st q n).1 < 2 ^ 32 := nm_lt st q n (rn' st q n).2 32
  have b7 : (rb' st q n).1 < 2 ^ 32 := nm_lt st q n (ri' st q n).2 32
  have b8 : (rf' st q n).1 < 2 ^ 32 := nm_lt st q n (rb' st q n).2 32
  unfold rdS
  exact sq_key _ _ _ _ _ _ _ _ _ b1 b2 b3 b4 b7 b8 (ra_b st q n).1 (re_b st q n).1

/-! ### what was written is read -/
def AtB (q : List UInt8) (a : Nat) (l : List Bool) : Prop := ∀ i, i < l.length → ubit q (a + i) = bn l i
theorem AtB.left {q : List UInt8} {a : Nat} {l m : List Bool} (h : AtB q a (l ++ m)) : AtB q a l := fun i hi => by
  rw [h i (by rw [List.length_append]; omega), bn_left _ _ _ hi]
theorem AtB.right {q : List UInt8} {a : Nat} {l m : List Bool} (h : AtB q a (l ++ m)) : AtB q (a + l.length) m := fun i hi => by
  rw [Nat.add_assoc, h (l.length + i) (by rw [List.length_append]; omega), bn_right _ _ _ (by omega), show l.length + i - l.length = i by omega]
theorem AtB.vl {q : List UInt8} {a V n : Nat} (h : AtB q a (vbits V n)) (hV : V < 2 ^ n) : vl q a n = V := vl_all _ _ _ _ hV fun i hi => by
  rw [h i (by rw [vbits_len]; exact hi), bn_vbits V n i hi]
theorem AtB.nm {st : Bool} {q : List UInt8} {a n V k : Nat} {l : List Bool} (h : AtB q a (vbits V k ++ l)) (hV : V < 2 ^ k) (hn : a + (vbits V k ++ l).length ≤ n) : nm st q n (a, 0) k = (V, a + k, 0) ∧ AtB q (a + k) l ∧ a + k + l.length ≤ n := by
  rw [List.length_append, vbits_len] at hn
  refine ⟨?_, ?_, by omega⟩
  · unfold Sc.nm
    rw [if_neg (by simp), if_pos (by show a + k ≤ n; omega), h.left.vl hV]
  · have := h.right
    rwa [vbits_len] at this
theorem AtB.flag {st : Bool} {q : List UInt8} {a n : Nat} {b : Bool} {l : List Bool} (h : AtB q a ([b] ++ l)) (hn : a + ([b] ++ l).length ≤ n) : Sc.nm st q n (a, 0) 1 = (b.toNat, a + 1, 0) ∧ AtB q (a + 1) l ∧ a + 1 + l.length ≤ n := by
  have e : [b] = vbits b.toNat 1 := by cases b <;> rfl
  rw [e] at h hn
  exact h.nm (by cases b <;> decide) hn
def mxp (m : List UInt8) (p : Nat) : List UInt8 := (List.range 64).map fun k => if (scn.take p).contains k then m.getD k 0 else 0
theorem mxp_0 (m : List UInt8) : mxp m 0 = List.replicate 64 0 := by
  apply List.ext_getElem
  · simp only [mxp, List.length_map, List.length_range, List.length_replicate]
  · intro i h1 h2
    simp only [mxp, List.getElem_map, List.take_zero, List.contains_nil, Bool.false_eq_true, if_false, List.getElem_replicate]
theorem scn_tk (p : Nat) (h : p < 64) : scn.take (p + 1) = scn.take p ++ [sk p] := by
  rw [List.take_add_one, sk, List.getD]
  rw [List.getElem?_eq_getElem (by rw [scn_len]; exact h)]
  rfl
theorem mxp_succ (m : List UInt8) (p : Nat) (h : p < 64) : (mxp m p).set (sk p) (m.getD (sk p) 0) = mxp m (p + 1) := by
  apply List.ext_getElem
  · simp [mxp]
  · intro i h1 h2
    rw [List.getElem_set]
    simp only [mxp, List.getElem_map, List.getElem_range, scn_tk p h]
    by_cases hk : sk p = i
    · subst hk
      simp
    · rw [if_neg hk]
      have : (scn.take p ++ [sk p]).contains i = (scn.take p).contains i := by
        simp only [List.contains_eq_mem, List.mem_append, List.mem_singleton]
        congr 1
        simp [Ne.symm hk]
      rw [this]
theorem mxp_64 (m : List UInt8) (hm : m.length = 64) : mxp m 64 = m := by
  apply List.ext_getElem
  · simp [mxp, hm]
  · intro i h1 h2
    have hc : ∀ i < 64, (scn.take 64).contains i = true := by decide +kernel
    simp only [mxp, List.getElem_map, List.getElem_range]
    rw [if_pos (hc i (by omega)), List.getD, List.getElem?_eq_getElem h2]
    rfl
theorem mxe_split (m : List UInt8) (p : Nat) : ∀ r, ∃ t, mxe m (p + r) = mxe m p ++ t
  | 0 => ⟨[], by simp⟩
  | r + 1 => by
    obtain ⟨t, ht⟩ := mxe_split m p r
    exact ⟨t ++ vbits (m.getD (sk (p + r)) 0).toNat 8, by rw [show p + (r + 1) = p + r + 1 by omega, mxe, ht, List.append_assoc]⟩
theorem rdE_put {st : Bool} {q : List UInt8} {n a : Nat} {m : List UInt8} {l : List Bool} (h : AtB q a (mxe m 64 ++ l)) (hn : a + (mxe m 64 ++ l).length ≤ n) : ∀ p, p ≤ 64 → rdE st q n (a, 0) p = (mxp m p, a + p * 8, 0)
  | 0, _ => by simp [rdE, mxp_0]
  | p + 1, hp => by
    rw [rdE, rdE_put h hn p (by omega)]
    obtain ⟨t, ht⟩ := mxe_split m (p + 1) (63 - p)
    rw [show p + 1 + (63 - p) = 64 by omega] at ht
    have hs : mxe m (p + 1) = mxe m p ++ vbits (m.getD (sk p) 0).toNat 8 := rfl
    rw [hs] at ht
    rw [ht, List.append_assoc, List.append_assoc] at h hn
    have h2 := h.right
    rw [mxe_len] at h2
    rw [List.length_append, mxe_len] at hn
    have hv : (m.getD (sk p) 0).toNat < 2 ^ 8 := UInt8.toNat_lt _
    obtain ⟨e, _⟩ := h2.nm (st := st) (n := n) hv (by omega)
    dsimp only
    rw [e]
    dsimp only
    rw [UInt8.ofNat_toNat, mxp_succ m p (by omega), show a + p * 8 + 8 = a + (p + 1) * 8 by omega]
theorem rdM_put {st : Bool} {q : List UInt8} {n a : Nat} {m u : List UInt8} {l : List Bool} (hm : m.length = 64) (h : AtB q a (mxb m u ++ l)) (hn : a + (mxb m u ++ l).length ≤ n) : rdM st q n u (a, 0) = (m, a + (mxb m u).length, 0) ∧ AtB q (a + (mxb m u).length) l ∧ a + (mxb m u).length + l.length ≤ n := by
  refine ⟨?_, h.right, by rw [List.length_append] at hn; omega⟩
  unfold mxb at h hn ⊢
  unfold rdM
  by_cases he : m = u
  · rw [if_pos he] at h hn ⊢
    obtain ⟨e, _⟩ := h.flag (st := st) hn
    rw [e, he]
    rfl
  · rw [if_neg he] at h hn ⊢
    rw [show true :: mxe m 64 ++ l = [true] ++ (mxe m 64 ++ l) by simp] at h hn
    obtain ⟨e, h2, h3⟩ := h.flag (st := st) hn
    rw [e]
    dsimp only
    rw [if_pos (by rfl), rdE_put h2 h3 64 (Nat.le_refl _), mxp_64 m hm, List.length_cons, mxe_len]

end Go.Proofs.YtbhdollgohgkgaaGreatDoor.Sc
