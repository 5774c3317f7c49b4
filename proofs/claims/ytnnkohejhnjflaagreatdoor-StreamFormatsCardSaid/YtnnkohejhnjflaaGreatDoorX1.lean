/-
  Parts of the proof, put together in one text. No condition.
-/
import Derived.Test.YtnnkohejhnjflaaGreatDoorPj
import Derived.Test.YtnnkohejhnjflaaGreatDoorQs
import Derived.Test.YtnnkohejhnjflaaGreatDoorUa
import Derived.Test.YtnnkohejhnjflaaGreatDoorWt
import Derived.Test.YtnnkohejhnjflaaGreatDoorBp
import Derived.Test.YtnnkohejhnjflaaGreatDoorZd
import Derived.Test.YtnnkohejhnjflaaGreatDoorVa
namespace Go.Proofs.YtnnkohejhnjflaaGreatDoor.Sc
set_option linter.all false
set_option linter.unusedVariables false
set_option linter.unusedSimpArgs false
open Pm Ty Go.RowKit

def sk (p : Nat) : Nat := scn.getD p 0
theorem dIn_len : dIn.length = 64 := rfl
theorem dIt_len : dIt.length = 64 := rfl
theorem scn_len : scn.length = 64 := rfl
theorem sk_lt (p : Nat) (h : p < 64) : sk p < 64 := by
  have : ∀ p < 64, sk p < 64 := by decide +kernel
  exact this p h
/-- The bits of the first p elements of a matrix, in this order. -/
def mxe (m : List UInt8) : Nat → List Bool
  | 0 => []
  | p + 1 => mxe m p ++ vbits (m.getD (sk p) 0).toNat 8
theorem mxe_len (m : List UInt8) : ∀ p, (mxe m p).length = p * 8
  | 0 => rfl
  | p + 1 => by rw [mxe, List.length_append, mxe_len m p, vbits_len]; omega
def mxb (m u : List UInt8) : List Bool := if m = u then [false] else true :: mxe m 64
theorem mxb_len (m u : List UInt8) : (mxb m u).length ≤ 513 := by
  unfold mxb
  split
  · simp
  · rw [List.length_cons, mxe_len]; omega
def sbits (s : Sq) : List Bool := vbits (s.w / 16).toNat 8 ++ (vbits (s.h / 16).toNat 8 ++ (vbits s.num.toNat 32 ++ (vbits s.den.toNat 32 ++ ([s.il] ++ (vbits s.br.toNat 32 ++ (vbits s.bf.toNat 32 ++ (mxb s.ia dIn ++ mxb s.ie dIt)))))))
def putS (s : Sq) : Int × List UInt8 × Int := if vseq s then (179, pk (sbits s ++ [true]), 0) else (0, [], 1)
def gbits (c b : Bool) (t : Int) : List Bool := [c, b] ++ vbits t.toNat 24
def putG (c b : Bool) (t : Int) : Int × List UInt8 × Int := if 0 ≤ t ∧ t < 16777216 then (184, pk (gbits c b t ++ [true]), 0) else (0, [], 1)

/-! ### reading -/
/-- A number of k bits, of a reader's place and error. 'st': after an error nothing is read any more. -/
def nm (st : Bool) (q : List UInt8) (n : Nat) (x : Nat × Nat) (k : Nat) : Nat × Nat × Nat :=
  if x.2 ≠ 0 then (0, x) else if x.1 + k ≤ n then (vl q x.1 k, x.1 + k, 0) else (0, x.1, if st then 4 else 0)
def rdE (st : Bool) (q : List UInt8) (n : Nat) (x : Nat × Nat) : Nat → List UInt8 × Nat × Nat
  | 0 => (List.replicate 64 0, x)
  | p + 1 => ((rdE st q n x p).1.set (sk p) (UInt8.ofNat (nm st q n (rdE st q n x p).2 8).1), (nm st q n (rdE st q n x p).2 8).2)
def rdM (st : Bool) (q : List UInt8) (n : Nat) (u : List UInt8) (x : Nat × Nat) : List UInt8 × Nat × Nat :=
  if (nm st q n x 1).1 = 1 then rdE st q n (nm st q n x 1).2 64 else (u, (nm st q n x 1).2)
def rw' (st : Bool) (q : List UInt8) (n : Nat) := nm st q n (0, 0) 8
def rh' (st : Bool) (q : List UInt8) (n : Nat) := nm st q n (rw' st q n).2 8
def rn' (st : Bool) (q : List UInt8) (n : Nat) := nm st q n (rh' st q n).2 32
def rd' (st : Bool) (q : List UInt8) (n : Nat) := nm st q n (rn' st q n).2 32
def ri' (st : Bool) (q : List UInt8) (n : Nat) := nm st q n (rd' st q n).2 1
def rb' (st : Bool) (q : List UInt8) (n : Nat) := nm st q n (ri' st q n).2 32
def rf' (st : Bool) (q : List UInt8) (n : Nat) := nm st q n (rb' st q n).2 32
def ra' (st : Bool) (q : List UInt8) (n : Nat) := rdM st q n dIn (rf' st q n).2
def re' (st : Bool) (q : List UInt8) (n : Nat) := rdM st q n dIt (ra' st q n).2
def rdS (st : Bool) (q : List UInt8) (n : Nat) : Sq := ⟨16 * ((rw' st q n).1 : Int), 16 * ((rh' st q n).1 : Int), ((rn' st q n).1 : Int), ((rd' st q n).1 : Int), decide ((ri' st q n).1 = 1), ((rb' st q n).1 : Int), ((rf' st q n).1 : Int), (ra' st q n).1, (re' st q n).1⟩
theorem nm_lt (st : Bool) (q : List UInt8) (n : Nat) (x : Nat × Nat) (k : Nat) : (nm st q n x k).1 < 2 ^ k := by
  unfold nm
  have h0 : 0 < 2 ^ k := Nat.pow_pos (by omega)
  split
  · exact h0
  · split
    · exact vl_lt _ _ _
    · exact h0
theorem nm_le {st : Bool} {q : List UInt8} {n : Nat} {x : Nat × Nat} {k : Nat} (h : x.1 ≤ n) : (nm st q n x k).2.1 ≤ n := by
  unfold nm
  split
  · exact h
  · split
    · assumption
    · exact h
theorem rdE_b {st : Bool} {q : List UInt8} {n : Nat} {x : Nat × Nat} (h : x.1 ≤ n) : ∀ p, (rdE st q n x p).1.length = 64 ∧ (rdE st q n x p).2.1 ≤ n
  | 0 => ⟨by simp [rdE], h⟩
  | p + 1 => by
    obtain ⟨h1, h2⟩ := rdE_b (st := st) (q := q) h p
    exact ⟨by rw [rdE, List.length_set]; exact h1, nm_le h2⟩
theorem rdM_b {st : Bool} {q : List UInt8} {n : Nat} {x : Nat × Nat} {u : List UInt8} (h : x.1 ≤ n) (hu : u.length = 64) : (rdM st q n u x).1.length = 64 ∧ (rdM st q n u x).2.1 ≤ n := by
  unfold rdM
  split
  · exact rdE_b (nm_le h) 64
  · exact ⟨hu, nm_le h⟩
theorem rf_b (st : Bool) (q : List UInt8) (n : Nat) : (rf' st q n).2.1 ≤ n := by
  have g1 : (rw' st q n).2.1 ≤ n := nm_le (Nat.zero_le _)
  have g2 : (rh' st q n).2.1 ≤ n := nm_le g1
  have g3 : (rn' st q n).2.1 ≤ n := nm_le g2
  have g4 : (rd' st q n).2.1 ≤ n := nm_le g3
  have g5 : (ri' st q n).2.1 ≤ n := nm_le g4
  have g6 : (rb' st q n).2.1 ≤ n := nm_le g5
  exact nm_le g6
theorem ra_b (st : Bool) (q : List UInt8) (n : Nat) : (ra' st q n).1.length = 64 ∧ (ra' st q n).2.1 ≤ n := by
  unfold ra'
  exact rdM_b (rf_b st q n) dIn_len
theorem re_b (st : Bool) (q : List UInt8) (n : Nat) : (re' st q n).1.length = 64 ∧ (re' st q n).2.1 ≤ n := by
  unfold re'
  exact rdM_b (ra_b st q n).2 dIt_len
theorem sq_key (a b c d e f : Nat) (i : Bool) (x y : List UInt8) (ha : a < 2 ^ 8) (hb : b < 2 ^ 8) (hc : c < 2 ^ 32) (hd : d < 2 ^ 32) (he : e < 2 ^ 32) (hf : f < 2 ^ 32) (hx : x.length = 64) (hy : y.length = 64) : SqOk ⟨16 * (a : Int), 16 * (b : Int), (c : Int), (d : Int), i, (e : Int), (f : Int), x, y⟩ := by
  refine ⟨?_, ?_, ?_, ?_, ?_, ?_, hx, hy⟩ <;> dsimp only <;> omega
theorem rdS_ok (st : Bool) (q : List UInt8) (n : Nat) : SqOk (rdS st q n) := by
  have b1 : (rw' st q n).1 < 2 ^ 8 := nm_lt st q n (0, 0) 8
  have b2 : (rh' st q n).1 < 2 ^ 8 := nm_lt st q n (rw' st q n).2 8
  have b3 : (rn' st q n).1 < 2 ^ 32 := nm_lt st q n (rh' st q n).2 32
  have b4 : (rd' st q n).1 < 2 ^ 32 := nm_lt st q n (rn' st q n).2 32
  have b7 : (rb' st q n).1 < 2 ^ 32 := nm_lt st q n (ri' st q n).2 32
  have b8 : (rf' st q n).1 < 2 ^ 32 := nm_lt st q n (rb' st q n).2 32
  unfold rdS
  exact sq_key _ _ _ _ _ _ _ _ _ b1 b2 b3 b4 b7 b8 (ra_b st q n).1 (re_b st q n).1

/-! ### what was written is read -/
def AtB (q : List UInt8) (a : Nat) (l : List Bool) : Prop := ∀ i, i < l.length → ubit q (a + i) = bn l i
theorem AtB.left {q : List UInt8} {a : Nat} {l m : List Bool} (h : AtB q a (l ++ m)) : AtB q a l := fun i hi => by
  rw [h i (by rw [List.length_append]; omega), bn_left _ _ _ hi]
theorem AtB.right {q : List UInt8} {a : Nat} {l m : List Bool} (h : AtB q a (l ++ m)) : AtB q (a + l.length) m := fun i hi => by
  rw [Nat.add_assoc, h (l.length + i) (by rw [List.length_append]; omega), bn_right _ _ _ (by omega), show l.length + i - l.length = i by omega]
theorem AtB.vl {q : List UInt8} {a V n : Nat} (h : AtB q a (vbits V n)) (hV : V < 2 ^ n) : vl q a n = V := vl_all _ _ _ _ hV fun i hi => by
  rw [h i (by rw [vbits_len]; exact hi), bn_vbits V n i hi]
theorem AtB.nm {st : Bool} {q : List UInt8} {a n V k : Nat} {l : List Bool} (h : AtB q a (vbits V k ++ l)) (hV : V < 2 ^ k) (hn : a + (vbits V k ++ l).length ≤ n) : nm st q n (a, 0) k = (V, a + k, 0) ∧ AtB q (a + k) l ∧ a + k + l.length ≤ n := by
  rw [List.length_append, vbits_len] at hn
  refine ⟨?_, ?_, by omega⟩
  · unfold Sc.nm
    rw [if_neg (by simp), if_pos (by show a + k ≤ n; omega), h.left.vl hV]
  · have := h.right
    rwa [vbits_len] at this
theorem AtB.flag {st : Bool} {q : List UInt8} {a n : Nat} {b : Bool} {l : List Bool} (h : AtB q a ([b] ++ l)) (hn : a + ([b] ++ l).length ≤ n) : Sc.nm st q n (a, 0) 1 = (b.toNat, a + 1, 0) ∧ AtB q (a + 1) l ∧ a + 1 + l.length ≤ n := by
  have e : [b] = vbits b.toNat 1 := by cases b <;> rfl
  rw [e] at h hn
  exact h.nm (by cases b <;> decide) hn
def mxp (m : List UInt8) (p : Nat) : List UInt8 := (List.range 64).map fun k => if (scn.take p).contains k then m.getD k 0 else 0
theorem mxp_0 (m : List UInt8) : mxp m 0 = List.replicate 64 0 := by
  apply List.ext_getElem
  · simp only [mxp, List.length_map, List.length_range, List.length_replicate]
  · intro i h1 h2
    simp only [mxp, List.getElem_map, List.take_zero, List.contains_nil, Bool.false_eq_true, if_false, List.getElem_replicate]
theorem scn_tk (p : Nat) (h : p < 64) : scn.take (p + 1) = scn.take p ++ [sk p] := by
  rw [List.take_add_one, sk, List.getD]
  rw [List.getElem?_eq_getElem (by rw [scn_len]; exact h)]
  rfl
theorem mxp_succ (m : List UInt8) (p : Nat) (h : p < 64) : (mxp m p).set (sk p) (m.getD (sk p) 0) = mxp m (p + 1) := by
  apply List.ext_getElem
  · simp [mxp]
  · intro i h1 h2
    rw [List.getElem_set]
    simp only [mxp, List.getElem_map, List.getElem_range, scn_tk p h]
    by_cases hk : sk p = i
    · subst hk
      simp
    · rw [if_neg hk]
      have : (scn.take p ++ [sk p]).contains i = (scn.take p).contains i := by
        simp only [List.contains_eq_mem, List.mem_append, List.mem_singleton]
        congr 1
        simp [Ne.symm hk]
      rw [this]
theorem mxp_64 (m : List UInt8) (hm : m.length = 64) : mxp m 64 = m := by
  apply List.ext_getElem
  · simp [mxp, hm]
  · intro i h1 h2
    have hc : ∀ i < 64, (scn.take 64).contains i = true := by decide +kernel
    simp only [mxp, List.getElem_map, List.getElem_range]
    rw [if_pos (hc i (by omega)), List.getD, List.getElem?_eq_getElem h2]
    rfl
theorem mxe_split (m : List UInt8) (p : Nat) : ∀ r, ∃ t, mxe m (p + r) = mxe m p ++ t
  | 0 => ⟨[], by simp⟩
  | r + 1 => by
    obtain ⟨t, ht⟩ := mxe_split m p r
    exact ⟨t ++ vbits (m.getD (sk (p + r)) 0).toNat 8, by rw [show p + (r + 1) = p + r + 1 by omega, mxe, ht, List.append_assoc]⟩
theorem rdE_put {st : Bool} {q : List UInt8} {n a : Nat} {m : List UInt8} {l : List Bool} (h : AtB q a (mxe m 64 ++ l)) (hn : a + (mxe m 64 ++ l).length ≤ n) : ∀ p, p ≤ 64 → rdE st q n (a, 0) p = (mxp m p, a + p * 8, 0)
  | 0, _ => by simp [rdE, mxp_0]
  | p + 1, hp => by
    rw [rdE, rdE_put h hn p (by omega)]
    obtain ⟨t, ht⟩ := mxe_split m (p + 1) (63 - p)
    rw [show p + 1 + (63 - p) = 64 by omega] at ht
    have hs : mxe m (p + 1) = mxe m p ++ vbits (m.getD (sk p) 0).toNat 8 := rfl
    rw [hs] at ht
    rw [ht, List.append_assoc, List.append_assoc] at h hn
    have h2 := h.right
    rw [mxe_len] at h2
    rw [List.length_append, mxe_len] at hn
    have hv : (m.getD (sk p) 0).toNat < 2 ^ 8 := UInt8.toNat_lt _
    obtain ⟨e, _⟩ := h2.nm (st := st) (n := n) hv (by omega)
    dsimp only
    rw [e]
    dsimp only
    rw [UInt8.ofNat_toNat, mxp_succ m p (by omega), show a + p * 8 + 8 = a + (p + 1) * 8 by omega]
theorem rdM_put {st : Bool} {q : List UInt8} {n a : Nat} {m u : List UInt8} {l : List Bool} (hm : m.length = 64) (h : AtB q a (mxb m u ++ l)) (hn : a + (mxb m u ++ l).length ≤ n) : rdM st q n u (a, 0) = (m, a + (mxb m u).length, 0) ∧ AtB q (a + (mxb m u).length) l ∧ a + (mxb m u).length + l.length ≤ n := by
  refine ⟨?_, h.right, by rw [List.length_append] at hn; omega⟩
  unfold mxb at h hn ⊢
  unfold rdM
  by_cases he : m = u
  · rw [if_pos he] at h hn ⊢
    obtain ⟨e, _⟩ := h.flag (st := st) hn
    rw [e, he]
    rfl
  · rw [if_neg he] at h hn ⊢
    rw [show true :: mxe m 64 ++ l = [true] ++ (mxe m 64 ++ l) by simp] at h hn
    obtain ⟨e, h2, h3⟩ := h.flag (st := st) hn
    rw [e]
    dsimp only
    rw [if_pos (by rfl), rdE_put h2 h3 64 (Nat.le_refl _), mxp_64 m hm, List.length_cons, mxe_len]

end Go.Proofs.YtnnkohejhnjflaaGreatDoor.Sc

namespace Go.Proofs.YtnnkohejhnjflaaGreatDoor.Sc
set_option linter.all false
set_option linter.unusedVariables false
set_option linter.unusedSimpArgs false
open Pm Ty Go.RowKit

theorem eqM_def (xs ys : List PV) : peqG Tryz.prog .eql 24 (.agg xs) (.agg ys) = match (if szT Tryz.prog 5 = some 1 ∧ xs.length = 64 ∧ ys.length = 64 then peqI (.int .u8) xs ys else none) with | some b => peq .eql b | none => none := by kernel_rfl
theorem neM_def (xs ys : List PV) : peqG Tryz.prog .neq 24 (.agg xs) (.agg ys) = match (if szT Tryz.prog 5 = some 1 ∧ xs.length = 64 ∧ ys.length = 64 then peqI (.int .u8) xs ys else none) with | some b => peq .neq b | none => none := by kernel_rfl
theorem eqM_i (p q : List UInt8) (h : p.length = 64) (h' : q.length = 64) : (if szT Tryz.prog 5 = some 1 ∧ (bs p).length = 64 ∧ (bs q).length = 64 then peqI (.int .u8) (bs p) (bs q) else none) = some (p == q) := by
  rw [← eqU_def]
  exact eqU p q h h'
theorem eqM (p q : List UInt8) (h : p.length = 64) (h' : q.length = 64) : peqG Tryz.prog .eql 24 (.agg (bs p)) (.agg (bs q)) = some (.bool (p == q)) := by
  rw [eqM_def, eqM_i p q h h']; rfl
theorem neM (p q : List UInt8) (h : p.length = 64) (h' : q.length = 64) : peqG Tryz.prog .neq 24 (.agg (bs p)) (.agg (bs q)) = some (.bool (!(p == q))) := by
  rw [neM_def, eqM_i p q h h']; rfl
theorem eqB (p q : List UInt8) (h : p.length = 64) (h' : q.length = 64) : peqI (.int .u8) (bs p) (bs q) = some (p == q) := by
  have := eqM_i p q h h'
  rwa [if_pos ⟨by kernel_rfl, by rw [length_bs]; exact h, by rw [length_bs]; exact h'⟩] at this
theorem two_app {H K : Heap} {i j : Nat} {A B : Blk} (hi : i < H.length) (hj : j < H.length) : two (H ++ K) i j A B = two H i j A B ++ K := by
  unfold two
  rw [List.set_append_left _ _ hi, List.set_append_left _ _ (by rw [List.length_set]; exact hj)]
theorem two_sc {H : Heap} {i j : Nat} {A B : Blk} (hA : ∀ x ∈ A.cells, Scoped H.length x) (hB : ∀ x ∈ B.cells, Scoped H.length x) (h : HSc H) : HSc (two H i j A B) :=
  HSc.set (HSc.set h hA) (by rw [List.length_set]; exact hB)
theorem wA_sc {n j : Nat} (l : List Bool) (h : j < n) : ∀ x ∈ (wA j l).cells, Scoped n x := fun x hx => by
  simp only [wA, List.mem_cons, List.not_mem_nil, or_false] at hx
  rcases hx with rfl | rfl
  · exact .msl h
  · exact .int _ _
theorem wB_sc (n : Nat) (l : List Bool) : ∀ x ∈ (wB l).cells, Scoped n x := fun x hx => bs_scoped _ _ x hx
theorem two_two' (H : Heap) (i j : Nat) (A B A' B' : Blk) (h : i ≠ j) : two (two H i j A B) i j A' B' = two H i j A' B' := by
  unfold two
  rw [List.set_comm _ _ (Ne.symm h), List.set_set, List.set_set]
theorem scV_at (p : Nat) (h : p < 64) : scV[p]? = some (.int .i64 (sk p : Int)) := by
  unfold scV sk
  rw [List.getElem?_map, List.getD, List.getElem?_eq_getElem (by rw [scn_len]; exact h)]
  rfl

theorem pflag_ok (i j : Nat) (l : List Bool) (b : Bool) (H : Heap) (hA : H[i]? = some (wA j l)) (hB : H[j]? = some (wB l)) (hne : i ≠ j) (hl : l.length ≤ 1000000000) :
    CallOk Tryz.prog 33 [.ptr i 0 0, .bool b] H (.tup []) (two H i j (wA j (l ++ [b])) (wB (l ++ [b]))) := by
  have hv := vbits1 b
  refine CallOk.body (F0 := [(0, .ptr i 0 0), (1, .bool b)]) Tryz.func33 rfl Tryz.ntmps33 Tryz.results33 rfl (by kernel_rfl) rfl ?_
  (repeat refine PW.seq ?_); refine PW.rg rfl fun K hK => ?_; simp (maxSteps := 3000000) (disch := omega) only [go_sem, ↓reduceIte, reduceCtorEq, pappend, plen]; refine hK _ _ ?_; clear hK K; (repeat refine PW.seq ?_); refine PW.rg rfl fun K hK => ?_; simp (maxSteps := 3000000) (disch := omega) only [go_sem, ↓reduceIte, reduceCtorEq, pappend, plen]; refine hK _ _ ?_; clear hK K
  cases b with
  | true =>
    have hp := put_ok i j l 1 1 H hA hB hne (by omega) (by decide) hl
    simp only [if_true] at hv
    rw [hv] at hp
    (repeat refine PW.seq ?_); refine PW.cond (t := _) rfl (fun h => ?_) (fun h => ?_)
    rotate_left
    · cases h
    (repeat refine PW.seq ?_); refine PW.rg rfl fun K hK => ?_; simp (maxSteps := 3000000) (disch := omega) only [go_sem, ↓reduceIte, reduceCtorEq, pappend, plen]; refine hK _ _ ?_; clear hK K
    (repeat refine PW.seq ?_); refine PW.rg rfl fun K hK => ?_; simp (maxSteps := 3000000) (disch := omega) only [go_sem, ↓reduceIte, reduceCtorEq, pappend, plen]; refine VCx.call (hp) rfl ?_; simp (maxSteps := 3000000) (disch := omega) only [go_sem, ↓reduceIte, reduceCtorEq, pappend, plen]; refine hK _ _ ?_; clear hK K
    exact Exists.intro _ (And.intro rfl Fin.now)
  | false =>
    have hp := put_ok i j l 0 1 H hA hB hne (by omega) (by decide) hl
    simp only [Bool.false_eq_true, if_false] at hv
    rw [hv] at hp
    (repeat refine PW.seq ?_); refine PW.cond (t := _) rfl (fun h => ?_) (fun h => ?_)
    · cases h
    refine PW.skip ?_
    (repeat refine PW.seq ?_); refine PW.rg rfl fun K hK => ?_; simp (maxSteps := 3000000) (disch := omega) only [go_sem, ↓reduceIte, reduceCtorEq, pappend, plen]; refine VCx.call (hp) rfl ?_; simp (maxSteps := 3000000) (disch := omega) only [go_sem, ↓reduceIte, reduceCtorEq, pappend, plen]; refine hK _ _ ?_; clear hK K
    exact Exists.intro _ (And.intro rfl Fin.now)

set_option maxHeartbeats 4000000 in
theorem pmat_ok (i j : Nat) (l : List Bool) (m u : List UInt8) (H : Heap) (hA : H[i]? = some (wA j l)) (hB : H[j]? = some (wB l)) (hne : i ≠ j) (hl : l.length ≤ 1000000) (hm : m.length = 64) (hu : u.length = 64) :
    CallOk Tryz.prog 34 [.ptr i 0 0, .agg (bs m), .agg (bs u)] H (.tup []) (two H i j (wA j (l ++ mxb m u)) (wB (l ++ mxb m u))) := by
  have hi := (List.getElem?_eq_some_iff.1 hA).1
  have hj := (List.getElem?_eq_some_iff.1 hB).1
  have e1 := eqB m u hm hu
  have am : (bs m).all PV.cell = true := by simp [bs, PV.cell]
  have au : (bs u).all PV.cell = true := by simp [bs, PV.cell]
  have lm : (bs m).length = 64 := by rw [length_bs]; exact hm
  have lu : (bs u).length = 64 := by rw [length_bs]; exact hu
  have tm : List.take 64 (bs m) = bs m := List.take_of_length_le (by omega)
  have tu : List.take 64 (bs u) = bs u := List.take_of_length_le (by omega)
  have fin : ∀ L K, Fin H (.tup []) (two H i j (wA j L) (wB L)) (.tup []) (two H i j (wA j L) (wB L) ++ K) := fun L K =>
    Fin.cut rfl (by rw [two_len]) (two_sc (wA_sc _ hj) (wB_sc _ _)) (.id (.tup (by simp)))
  refine CallOk.body (F0 := [(0, .ptr i 0 0), (1, .agg (bs m)), (2, .agg (bs u))]) Tryz.func34 rfl Tryz.ntmps34 Tryz.results34 rfl (by kernel_rfl) rfl ?_
  (repeat refine PW.seq ?_); refine PW.rg rfl fun K hK => ?_; simp (maxSteps := 3000000) (disch := omega) only [go_sem, ↓reduceIte, reduceCtorEq, pappend, plen, am, au]; refine hK _ _ ?_; clear hK K
  obtain ⟨K, hK0⟩ : ∃ K : Heap, K = [⟨24, 0, bs m⟩, ⟨24, 0, bs u⟩] := ⟨_, rfl⟩
  have gA : ∀ L, (two H i j (wA j L) (wB L) ++ K)[i]? = some (wA j L) := fun L => by
    rw [List.getElem?_append_left (by rw [two_len]; exact hi)]; exact two_0 _ _ _ _ _ ⟨hi, hne⟩
  have gB : ∀ L, (two H i j (wA j L) (wB L) ++ K)[j]? = some (wB L) := fun L => by
    rw [List.getElem?_append_left (by rw [two_len]; exact hj)]; exact two_1 _ _ _ _ _ hj
  have pf : ∀ L b, L.length ≤ 1000000000 → CallOk Tryz.prog 33 [.ptr i 0 0, .bool b] (two H i j (wA j L) (wB L) ++ K) (.tup []) (two H i j (wA j (L ++ [b])) (wB (L ++ [b])) ++ K) := fun L b hL => by
    have := pflag_ok i j L b _ (gA L) (gB L) hne hL
    rw [two_app (by rw [two_len]; exact hi) (by rw [two_len]; exact hj), two_two' _ _ _ _ _ _ _ hne] at this
    exact this
  have pt : ∀ (L : List Bool) (V n : Nat), n ≤ 32 → V / 2 ^ n = 0 → L.length ≤ 1000000000 → CallOk Tryz.prog 32 [.ptr i 0 0, .int .u32 (V : Int), .int .i64 (n : Int)] (two H i j (wA j L) (wB L) ++ K) (.int .i64 0) (two H i j (wA j (L ++ vbits V n)) (wB (L ++ vbits V n)) ++ K) := fun L V n hn hV hL => by
    have := put_ok i j L V n _ (gA L) (gB L) hne hn hV hL
    rw [two_app (by rw [two_len]; exact hi) (by rw [two_len]; exact hj), two_two' _ _ _ _ _ _ _ hne] at this
    exact this
  have g4 : ∀ L, (two H i j (wA j L) (wB L) ++ K)[H.length]? = some ⟨24, 0, bs m⟩ := fun L => by
    rw [List.getElem?_append_right (by rw [two_len]; omega), two_len, Nat.sub_self, hK0]; rfl
  have g5 : ∀ L, (two H i j (wA j L) (wB L) ++ K)[H.length + 1]? = some ⟨24, 0, bs u⟩ := fun L => by
    rw [List.getElem?_append_right (by rw [two_len]; omega), two_len, show H.length + 1 - H.length = 1 by omega, hK0]; rfl
  refine PW.at [0, 4, 5] (F1 := [(0, .ptr i 0 0), (4, .ptr H.length 0 0), (5, .ptr (H.length + 1) 0 0)]) (H1 := two H i j (wA j l) (wB l) ++ K) ?_ rfl (by rw [two_self hA hB, hK0])
  have p1 := pf l (!(m == u)) (by omega)
  (repeat refine PW.seq ?_); refine PW.rg rfl fun K hK => ?_; simp (maxSteps := 3000000) (disch := omega) only [go_sem, ↓reduceIte, reduceCtorEq, pappend, plen, g4, g5, lm, lu, tm, tu, e1]
  refine VCx.call (p1) rfl ?_; simp (maxSteps := 3000000) (disch := omega) only [go_sem, ↓reduceIte, reduceCtorEq, pappend, plen]; refine hK _ _ ?_; clear hK K
  (repeat refine PW.seq ?_); refine PW.rg rfl fun K hK => ?_; simp (maxSteps := 3000000) (disch := omega) only [go_sem, ↓reduceIte, reduceCtorEq, pappend, plen, g4, g5, lm, lu, tm, tu, e1]; refine hK _ _ ?_; clear hK K
  have bg : ∀ p, p < 64 → (bs m)[sk p]? = some (.int .u8 ((m.getD (sk p) 0).toNat : Int)) := fun p hp => by
    rw [bs_get _ _ (by rw [hm]; exact sk_lt p hp)]; rfl
  cases he : (m == u) with
  | true =>
    have hmu : mxb m u = [!(m == u)] := by unfold mxb; rw [if_pos (by simpa using he), he]; rfl
    (repeat refine PW.seq ?_); refine PW.cond (t := _) rfl (fun h => ?_) (fun h => ?_)
    rotate_left
    · cases h
    refine PW.ret ⟨_, rfl, ?_⟩
    rw [hmu, he]
    exact fin _ K
  | false =>
    have hmu : mxb m u = true :: mxe m 64 := by unfold mxb; rw [if_neg (by simpa using he)]
    (repeat refine PW.seq ?_); refine PW.cond (t := _) rfl (fun h => ?_) (fun h => ?_)
    · cases h
    refine PW.skip ?_
    (repeat refine PW.seq ?_); refine PW.rg rfl fun K hK => ?_; simp (maxSteps := 3000000) (disch := omega) only [go_sem, ↓reduceIte, reduceCtorEq, pappend, plen]; refine VCx.call (scan_ok _) rfl ?_; simp (maxSteps := 3000000) (disch := omega) only [go_sem, ↓reduceIte, reduceCtorEq, pappend, plen]; refine hK _ _ ?_; clear hK K
    (repeat refine PW.seq ?_); refine PW.block (PW.loop ?_)
    suffices hloop : ∀ k : Nat, k ≤ 64 → PL Tryz.prog _ _ [(0, .ptr i 0 0), (4, .ptr H.length 0 0), (16, .agg scV), (17, .int .i64 (k : Int))] (two H i j (wA j (l ++ (true :: mxe m k))) (wB (l ++ (true :: mxe m k))) ++ K) _ by
      exact PL.at [0, 4, 16, 17] (hloop 0 (by omega)) rfl rfl
    have sl : scV.length = 64 := rfl
    clear p1 pf e1
    intro k hk
    induction hd : 64 - k using Nat.strongRecOn generalizing k with
    | _ n ih =>
      refine PL.round ?_; (repeat refine PW.seq ?_); refine PW.rg rfl fun K hK => ?_; simp (maxSteps := 3000000) (disch := omega) only [go_sem, ↓reduceIte, reduceCtorEq, pappend, plen]; refine hK _ _ ?_; clear hK K
      (repeat refine PW.seq ?_); refine PW.cond (t := _) rfl (fun h => ?_) (fun h => ?_)
      · have h4 : k < 64 := by have := of_decide_eq_true h; omega
        have s1 := scV_at k h4
        have b1 := bg k h4
        have b2 := sk_lt k h4
        have hv : (m.getD (sk k) 0).toNat < 256 := UInt8.toNat_lt _
        have p1 := pt (l ++ (true :: mxe m k)) (m.getD (sk k) 0).toNat 8 (by omega) (Nat.div_eq_of_lt hv) (by rw [List.length_append, List.length_cons, mxe_len]; omega)
        have hnext := ih (64 - (k + 1)) (by omega) (k + 1) (by omega) rfl
        rw [mxe, show l ++ true :: (mxe m k ++ vbits (m.getD (sk k) 0).toNat 8) = l ++ (true :: mxe m k) ++ vbits (m.getD (sk k) 0).toNat 8 by simp] at hnext
        have g6 := g4 (l ++ (true :: mxe m k))
        generalize (m.getD (sk k) 0).toNat = V at *
        generalize l ++ (true :: mxe m k) = L at *
        generalize sk k = q at *
        generalize l ++ true :: mxe m 64 = L2 at *
        refine PW.skip ?_; (repeat refine PW.seq ?_); refine PW.block ?_
        (repeat refine PW.seq ?_); refine PW.rg rfl fun K hK => ?_; simp (maxSteps := 3000000) (disch := omega) only [go_sem, ↓reduceIte, reduceCtorEq, pappend, plen, s1, sl]; refine hK _ _ ?_; clear hK K
        (repeat refine PW.seq ?_); refine PW.rg rfl fun K hK => ?_; simp (maxSteps := 3000000) (disch := omega) only [go_sem, ↓reduceIte, reduceCtorEq, pappend, plen, g6, lm, b1]; refine VCx.call (p1) rfl ?_; simp (maxSteps := 3000000) (disch := omega) only [go_sem, ↓reduceIte, reduceCtorEq, pappend, plen]; refine hK _ _ ?_; clear hK K
        (repeat refine PW.seq ?_); refine PW.rg rfl fun K hK => ?_; simp (maxSteps := 3000000) (disch := omega) only [go_sem, ↓reduceIte, reduceCtorEq, pappend, plen]; refine hK _ _ ?_; clear hK K
        exact PL.at [0, 4, 16, 17] hnext rfl rfl
      · have h4 : k = 64 := by have := of_decide_eq_false h; omega
        subst h4
        refine PW.exit ?_
        refine Exists.intro _ (And.intro rfl ?_)
        rw [hmu]
        exact fin _ K

end Go.Proofs.YtnnkohejhnjflaaGreatDoor.Sc

namespace Go.Proofs.YtnnkohejhnjflaaGreatDoor.Sc
set_option linter.all false
set_option linter.unusedVariables false
set_option linter.unusedSimpArgs false
open Pm Ty Go.RowKit

theorem sqc_cell' (s : Sq) : (sqc s).all PV.cell = true := by
  simp [sqc, bs, PV.cell]
theorem vseq_f {s : Sq} (h : vseq s = true) : (16 ≤ s.w ∧ s.w ≤ 64) ∧ (16 ≤ s.h ∧ s.h ≤ 64) ∧ (1 ≤ s.num ∧ s.num ≤ 1048576) ∧ (1 ≤ s.den ∧ s.den ≤ 65536) ∧ (1 ≤ s.br ∧ s.br ≤ 16777216) ∧ (1 ≤ s.bf ∧ s.bf ≤ 8388608) := by
  have h0 := vseq_h h
  simp only [vseq, vrt, vbr, Bool.and_eq_true, decide_eq_true_eq] at h
  obtain ⟨_, ⟨⟨⟨h1, h2⟩, h3⟩, h4⟩, ⟨⟨⟨h5, h6⟩, h7⟩, h8⟩, _⟩ := h
  have := ratOk_pos h1
  omega
/-- What PutSeq has in memory. -/
def sH (H : Heap) (s : Sq) (L : List Bool) : Heap := H ++ [⟨26, 0, sqc s⟩, ⟨31, 0, [.int .i64 0, .slice [] 0 true]⟩, wA (H.length + 3) L, wB L]
theorem two_sH (H : Heap) (s : Sq) (L M : List Bool) : two (sH H s L) (H.length + 2) (H.length + 3) (wA (H.length + 3) M) (wB M) = sH H s M := by
  unfold two sH
  simp only [aps, List.set_cons_succ, List.set_cons_zero]
theorem sH_0 (H : Heap) (s : Sq) (L : List Bool) : (sH H s L)[H.length]? = some ⟨26, 0, sqc s⟩ := hp0 _ _ _
theorem sH_1 (H : Heap) (s : Sq) (L : List Bool) : (sH H s L)[H.length + 1]? = some ⟨31, 0, [.int .i64 0, .slice [] 0 true]⟩ := hp1 _ _ _ _
theorem sH_2 (H : Heap) (s : Sq) (L : List Bool) : (sH H s L)[H.length + 2]? = some (wA (H.length + 3) L) := hp2 _ _ _ _ _
theorem sH_3 (H : Heap) (s : Sq) (L : List Bool) : (sH H s L)[H.length + 3]? = some (wB L) := hp3 _ _ _ _ _ _
theorem sH_l (H : Heap) (s : Sq) (L : List Bool) : (sH H s L).length = H.length + 4 := by simp [sH]

set_option maxHeartbeats 4000000 in
theorem puts_ok (s : Sq) (H : Heap) (hs : SqOk s) : CallOk Tryz.prog 8 [.agg (sqc s)] H (.tup [uv (putS s).1 (putS s).2.1, .int .i64 (putS s).2.2]) H := by
  have hvo := fun K => vseq_ok s K hs
  have hcl := sqc_cell' s
  have hln : (bs s.ia ++ bs s.ie).length = 128 := by simp [length_bs, hs.ia, hs.ie]
  have htk := sq_all s.ia s.ie hs.ia hs.ie
  have tia := sq_ia s.ia s.ie hs.ia
  have tie := sq_ie s.ia s.ie hs.ia
  have tk := sq_tk s.ie hs.ie
  have lia : (bs s.ia).length = 64 := by rw [length_bs]; exact hs.ia
  have lie : (bs s.ie).length = 64 := by rw [length_bs]; exact hs.ie
  generalize hr : putS s = r
  unfold putS at hr
  refine CallOk.body (F0 := [(0, .agg (sqc s))]) Tryz.func8 rfl Tryz.ntmps8 Tryz.results8 rfl (by kernel_rfl) rfl ?_
  (repeat refine PW.seq ?_); refine PW.rg rfl fun K hK => ?_; simp (maxSteps := 3000000) (disch := omega) only [go_sem, ↓reduceIte, reduceCtorEq, pappend, plen, hcl]; refine hK _ _ ?_; clear hK K
  cases hv : vseq s with
  | false =>
    rw [hv, if_neg (by decide)] at hr
    rw [hv] at hvo
    (repeat refine PW.seq ?_); refine PW.rg rfl fun K hK => ?_; simp (maxSteps := 3000000) (disch := omega) only [go_sem, ↓reduceIte, reduceCtorEq, pappend, plen, sqc, hln, htk]
    refine VCx.call (hvo _) rfl ?_; simp (maxSteps := 3000000) (disch := omega) only [go_sem, ↓reduceIte, reduceCtorEq, pappend, plen]; refine hK _ _ ?_; clear hK K
    (repeat refine PW.seq ?_); refine PW.cond (t := _) rfl (fun h => ?_) (fun h => ?_)
    rotate_left
    · cases h
    (repeat refine PW.seq ?_); refine PW.rg rfl fun K hK => ?_; simp (maxSteps := 3000000) (disch := omega) only [go_sem, ↓reduceIte, reduceCtorEq, pappend, plen]; refine hK _ _ ?_; clear hK K
    refine PW.ret ⟨.tup [.agg [.int .i64 0, .slice [] 0 true], .int .i64 1], by simp (maxSteps := 3000000) (disch := omega) only [go_sem, ↓reduceIte, reduceCtorEq, pappend, plen, presults, presult, List.mapM_cons, List.mapM_nil, Option.pure_def, Option.bind_eq_bind, Option.bind_some, Array.toList], ?_⟩
    rw [← hr]
    exact Fin.base (Fz.tupC ⟨Fz.aggC ⟨.id (.int _ _), .slice rfl (fun j x y hx => by simp at hx) (fun e => by cases e), trivial⟩, .id (.int _ _), trivial⟩)
  | true =>
    rw [hv, if_pos rfl] at hr
    rw [hv] at hvo
    obtain ⟨v1, v2, v3, v4, v5, v6⟩ := vseq_f hv
    (repeat refine PW.seq ?_); refine PW.rg rfl fun K hK => ?_; simp (maxSteps := 3000000) (disch := omega) only [go_sem, ↓reduceIte, reduceCtorEq, pappend, plen, sqc, hln, htk]
    refine VCx.call (hvo _) rfl ?_; simp (maxSteps := 3000000) (disch := omega) only [go_sem, ↓reduceIte, reduceCtorEq, pappend, plen]; refine hK _ _ ?_; clear hK K
    (repeat refine PW.seq ?_); refine PW.cond (t := _) rfl (fun h => ?_) (fun h => ?_)
    · cases h
    refine PW.skip ?_
    (repeat refine PW.seq ?_); refine PW.rg rfl fun K hK => ?_; simp (maxSteps := 3000000) (disch := omega) only [go_sem, ↓reduceIte, reduceCtorEq, pappend, plen]; refine VCx.call (neww_ok _) rfl ?_; simp (maxSteps := 3000000) (disch := omega) only [go_sem, ↓reduceIte, reduceCtorEq, pappend, plen]; refine hK _ _ ?_; clear hK K
    refine PW.view (Vs.ghostH (id := H.length + 2) (j := 0) 5 1 (hp2 _ _ _ _ _) rfl) ?_
    refine PW.at [1, 2, 4] (F1 := [(1, .ptr H.length 0 0), (2, .ptr (H.length + 1) 0 0), (4, .ptr (H.length + 2) 0 0)]) (H1 := sH H s []) ?_ rfl (by unfold sH; rw [wA0, wB0]; simp [hs2, sqc])
    have hw : s.w.tdiv 16 = ((s.w / 16).toNat : Int) := by rw [tdiv_pos _ _ (by omega)]; omega
    have hh : s.h.tdiv 16 = ((s.h / 16).toNat : Int) := by rw [tdiv_pos _ _ (by omega)]; omega
    have hwb : (s.w / 16).toNat ≤ 4 := by omega
    have hhb : (s.h / 16).toNat ≤ 4 := by omega
    have en : s.num = (s.num.toNat : Int) := by omega
    have ed : s.den = (s.den.toNat : Int) := by omega
    have er : s.br = (s.br.toNat : Int) := by omega
    have ef : s.bf = (s.bf.toNat : Int) := by omega
    have p1 : ∀ (L : List Bool) (V n : Nat), n ≤ 32 → V < 2 ^ n → L.length ≤ 1000000 → CallOk Tryz.prog 32 [.ptr (H.length + 2) 0 0, .int .u32 (V : Int), .int .i64 (n : Int)] (sH H s L) (.int .i64 0) (sH H s (L ++ vbits V n)) := fun L V n hn hV hL => by
      have := put_ok (H.length + 2) (H.length + 3) L V n (sH H s L) (sH_2 H s L) (sH_3 H s L) (by omega) hn (Nat.div_eq_of_lt hV) (by omega)
      rwa [two_sH] at this
    have p2 : ∀ (L : List Bool) (b : Bool), L.length ≤ 1000000 → CallOk Tryz.prog 33 [.ptr (H.length + 2) 0 0, .bool b] (sH H s L) (.tup []) (sH H s (L ++ [b])) := fun L b hL => by
      have := pflag_ok (H.length + 2) (H.length + 3) L b (sH H s L) (sH_2 H s L) (sH_3 H s L) (by omega) (by omega)
      rwa [two_sH] at this
    have p3 : ∀ (L : List Bool) (m u : List UInt8), m.length = 64 → u.length = 64 → L.length ≤ 100000 → ∀ (K : Heap), K[H.length + 2]? = some (wA (H.length + 3) L) → K[H.length + 3]? = some (wB L) → CallOk Tryz.prog 34 [.ptr (H.length + 2) 0 0, .agg (bs m), .agg (bs u)] K (.tup []) (two K (H.length + 2) (H.length + 3) (wA (H.length + 3) (L ++ mxb m u)) (wB (L ++ mxb m u))) := fun L m u hm hu hL K k1 k2 =>
      pmat_ok (H.length + 2) (H.length + 3) L m u K k1 k2 (by omega) (by omega) hm hu
    have p4 : ∀ (L : List Bool), L.length ≤ 1000000 → CallOk Tryz.prog 37 [.ptr (H.length + 2) 0 0] (sH H s L) (.slice (bs (pk (L ++ [true]))) (pk (L ++ [true])).length false) (sH H s L) := fun L hL => payload_ok (H.length + 2) (H.length + 3) L (sH H s L) (sH_2 H s L) (sH_3 H s L) (by omega)
    have q1 := p1 [] (s.w / 16).toNat 8 (by omega) (by omega) (by simp)
    (repeat refine PW.seq ?_); refine PW.rg rfl fun K hK => ?_; simp (maxSteps := 3000000) (disch := omega) only [go_sem, ↓reduceIte, reduceCtorEq, pappend, plen, sH_0, sqc, hw]; refine VCx.call (q1) rfl ?_; simp (maxSteps := 3000000) (disch := omega) only [go_sem, ↓reduceIte, reduceCtorEq, pappend, plen]; refine hK _ _ ?_; clear hK K
    obtain ⟨L1, h1⟩ : ∃ L, L = vbits (s.w / 16).toNat 8 := ⟨_, rfl⟩
    have n1 : L1.length = 8 := by rw [h1]; simp [vbits_len]
    rw [← h1]
    have q2 := p1 L1 (s.h / 16).toNat 8 (by omega) (by omega) (by omega)
    (repeat refine PW.seq ?_); refine PW.rg rfl fun K hK => ?_; simp (maxSteps := 3000000) (disch := omega) only [go_sem, ↓reduceIte, reduceCtorEq, pappend, plen, sH_0, sqc, hh]; refine VCx.call (q2) rfl ?_; simp (maxSteps := 3000000) (disch := omega) only [go_sem, ↓reduceIte, reduceCtorEq, pappend, plen]; refine hK _ _ ?_; clear hK K
    obtain ⟨L2, h2⟩ : ∃ L, L = L1 ++ vbits (s.h / 16).toNat 8 := ⟨_, rfl⟩
    have n2 : L2.length = 16 := by rw [h2]; simp [vbits_len, n1]
    rw [← h2]
    have q3 := p1 L2 s.num.toNat 32 (by omega) (by omega) (by omega)
    rw [← en] at q3
    (repeat refine PW.seq ?_); refine PW.rg rfl fun K hK => ?_; simp (maxSteps := 3000000) (disch := omega) only [go_sem, ↓reduceIte, reduceCtorEq, pappend, plen, sH_0, sqc]; refine VCx.call (q3) rfl ?_; simp (maxSteps := 3000000) (disch := omega) only [go_sem, ↓reduceIte, reduceCtorEq, pappend, plen]; refine hK _ _ ?_; clear hK K
    obtain ⟨L3, h3⟩ : ∃ L, L = L2 ++ vbits s.num.toNat 32 := ⟨_, rfl⟩
    have n3 : L3.length = 48 := by rw [h3]; simp [vbits_len, n2]
    rw [← h3]
    have q4 := p1 L3 s.den.toNat 32 (by omega) (by omega) (by omega)
    rw [← ed] at q4
    (repeat refine PW.seq ?_); refine PW.rg rfl fun K hK => ?_; simp (maxSteps := 3000000) (disch := omega) only [go_sem, ↓reduceIte, reduceCtorEq, pappend, plen, sH_0, sqc]; refine VCx.call (q4) rfl ?_; simp (maxSteps := 3000000) (disch := omega) only [go_sem, ↓reduceIte, reduceCtorEq, pappend, plen]; refine hK _ _ ?_; clear hK K
    obtain ⟨L4, h4⟩ : ∃ L, L = L3 ++ vbits s.den.toNat 32 := ⟨_, rfl⟩
    have n4 : L4.length = 80 := by rw [h4]; simp [vbits_len, n3]
    rw [← h4]
    have q5 := p2 L4 s.il (by omega)
    (repeat refine PW.seq ?_); refine PW.rg rfl fun K hK => ?_; simp (maxSteps := 3000000) (disch := omega) only [go_sem, ↓reduceIte, reduceCtorEq, pappend, plen, sH_0, sqc]; refine VCx.call (q5) rfl ?_; simp (maxSteps := 3000000) (disch := omega) only [go_sem, ↓reduceIte, reduceCtorEq, pappend, plen]; refine hK _ _ ?_; clear hK K
    obtain ⟨L5, h5⟩ : ∃ L, L = L4 ++ [s.il] := ⟨_, rfl⟩
    have n5 : L5.length = 81 := by rw [h5]; simp [n4]
    rw [← h5]
    have q6 := p1 L5 s.br.toNat 32 (by omega) (by omega) (by omega)
    rw [← er] at q6
    (repeat refine PW.seq ?_); refine PW.rg rfl fun K hK => ?_; simp (maxSteps := 3000000) (disch := omega) only [go_sem, ↓reduceIte, reduceCtorEq, pappend, plen, sH_0, sqc]; refine VCx.call (q6) rfl ?_; simp (maxSteps := 3000000) (disch := omega) only [go_sem, ↓reduceIte, reduceCtorEq, pappend, plen]; refine hK _ _ ?_; clear hK K
    obtain ⟨L6, h6⟩ : ∃ L, L = L5 ++ vbits s.br.toNat 32 := ⟨_, rfl⟩
    have n6 : L6.length = 113 := by rw [h6]; simp [vbits_len, n5]
    rw [← h6]
    have q7 := p1 L6 s.bf.toNat 32 (by omega) (by omega) (by omega)
    rw [← ef] at q7
    (repeat refine PW.seq ?_); refine PW.rg rfl fun K hK => ?_; simp (maxSteps := 3000000) (disch := omega) only [go_sem, ↓reduceIte, reduceCtorEq, pappend, plen, sH_0, sqc]; refine VCx.call (q7) rfl ?_; simp (maxSteps := 3000000) (disch := omega) only [go_sem, ↓reduceIte, reduceCtorEq, pappend, plen]; refine hK _ _ ?_; clear hK K
    obtain ⟨L7, h7⟩ : ∃ L, L = L6 ++ vbits s.bf.toNat 32 := ⟨_, rfl⟩
    have n7 : L7.length = 145 := by rw [h7]; simp [vbits_len, n6]
    rw [← h7]
    clear q1 q2 q3 q4 q5 q6 q7 p1 p2
    have x8 := mxb_len s.ia dIn
    have x9 := mxb_len s.ie dIt
    (repeat refine PW.seq ?_); refine PW.drawi [H.length + 2, H.length + 3] [(4, [0, 1]), (48, [0, 1])] [] [51] mix (by kernel_rfl) (by simp <;> omega) fun K hK => ?_
    simp (maxSteps := 3000000) (disch := omega) only [go_sem, ↓reduceIte, reduceCtorEq, pappend, plen, sH_0, sqc, tia, List.length_append, lia, lie]
    refine VCj.read (fun _ _ => din_ok _) rfl ?_; simp (maxSteps := 3000000) (disch := omega) only [go_sem, ↓reduceIte, reduceCtorEq, pappend, plen]
    refine VCj.wrT (i := H.length + 2) (j := H.length + 3) (sH_2 H s L7) (sH_3 H s L7) (by omega) (p3 L7 s.ia dIn hs.ia dIn_len (by omega)) (by simp (maxSteps := 3000000) (disch := omega) only [go_sem, ↓reduceIte, reduceCtorEq, pappend, plen]) (by simp (maxSteps := 3000000) (disch := omega) only [go_sem, ↓reduceIte, reduceCtorEq, pappend, plen]) (by simp (maxSteps := 3000000) (disch := omega) only [go_sem, ↓reduceIte, reduceCtorEq, pappend, plen]) (by simp (maxSteps := 3000000) (disch := omega) only [go_sem, ↓reduceIte, reduceCtorEq, pappend, plen]) rfl ?_
    simp (maxSteps := 3000000) (disch := omega) only [go_sem, ↓reduceIte, reduceCtorEq, pappend, plen, two_sH]; refine hK _ _ ?_; clear hK K
    obtain ⟨L8, h8⟩ : ∃ L, L = L7 ++ mxb s.ia dIn := ⟨_, rfl⟩
    have n8 : L8.length ≤ 145 + 513 := by rw [h8, List.length_append]; omega
    rw [← h8]
    (repeat refine PW.seq ?_); refine PW.drawi [H.length + 2, H.length + 3] [(4, [0, 1]), (53, [0, 1])] [] [56] mix (by kernel_rfl) (by simp <;> omega) fun K hK => ?_
    simp (maxSteps := 3000000) (disch := omega) only [go_sem, ↓reduceIte, reduceCtorEq, pappend, plen, sH_0, sqc, tie, tk, List.length_append, lia, lie]
    refine VCj.read (fun _ _ => dit_ok _) rfl ?_; simp (maxSteps := 3000000) (disch := omega) only [go_sem, ↓reduceIte, reduceCtorEq, pappend, plen]
    refine VCj.wrT (i := H.length + 2) (j := H.length + 3) (sH_2 H s L8) (sH_3 H s L8) (by omega) (p3 L8 s.ie dIt hs.ie dIt_len (by omega)) (by simp (maxSteps := 3000000) (disch := omega) only [go_sem, ↓reduceIte, reduceCtorEq, pappend, plen]) (by simp (maxSteps := 3000000) (disch := omega) only [go_sem, ↓reduceIte, reduceCtorEq, pappend, plen]) (by simp (maxSteps := 3000000) (disch := omega) only [go_sem, ↓reduceIte, reduceCtorEq, pappend, plen]) (by simp (maxSteps := 3000000) (disch := omega) only [go_sem, ↓reduceIte, reduceCtorEq, pappend, plen]) rfl ?_
    simp (maxSteps := 3000000) (disch := omega) only [go_sem, ↓reduceIte, reduceCtorEq, pappend, plen, two_sH]; refine hK _ _ ?_; clear hK K
    obtain ⟨L9, h9⟩ : ∃ L, L = L8 ++ mxb s.ie dIt := ⟨_, rfl⟩
    have n9 : L9.length ≤ 145 + 513 + 513 := by rw [h9, List.length_append]; omega
    rw [← h9]
    have hL : sbits s = L9 := by rw [h9, h8, h7, h6, h5, h4, h3, h2, h1]; simp [sbits]
    have q9 := p4 L9 (by omega)
    (repeat refine PW.seq ?_); refine PW.rg rfl fun K hK => ?_; simp (maxSteps := 3000000) (disch := omega) only [go_sem, ↓reduceIte, reduceCtorEq, pappend, plen]; refine VCx.call (q9) rfl ?_; simp (maxSteps := 3000000) (disch := omega) only [go_sem, ↓reduceIte, reduceCtorEq, pappend, plen, sH_1, sH_l]
    refine hK _ _ ?_; clear hK K
    generalize hP : pk (L9 ++ [true]) = P at *
    have hE : (sH H s L9).set (H.length + 1) ⟨31, 0, [.int .i64 179, .slice (bs P) P.length false]⟩ = H ++ [⟨26, 0, sqc s⟩, ⟨31, 0, [.int .i64 179, .slice (bs P) P.length false]⟩, wA (H.length + 3) L9, wB L9] := hs1 _ _ _ _ _
    refine PW.eq rfl hE ?_
    refine PW.ret ⟨.tup [.agg [.int .i64 179, .slice (bs P) P.length false], .int .i64 0], by simp (maxSteps := 3000000) (disch := omega) only [go_sem, ↓reduceIte, reduceCtorEq, pappend, plen, presults, presult, List.mapM_cons, List.mapM_nil, Option.pure_def, Option.bind_eq_bind, Option.bind_some, Array.toList], ?_⟩
    rw [← hr, hL, hP]
    exact Fin.base (.id (uve_scoped _ _ _ _))

/-- What PutGroup has in memory. -/
def gH (H : Heap) (X : List PV) (L : List Bool) : Heap := H ++ [⟨28, 0, X⟩, ⟨31, 0, [.int .i64 0, .slice [] 0 true]⟩, wA (H.length + 3) L, wB L]
theorem two_gH (H : Heap) (X : List PV) (L M : List Bool) : two (gH H X L) (H.length + 2) (H.length + 3) (wA (H.length + 3) M) (wB M) = gH H X M := by
  unfold two gH
  simp only [aps, List.set_cons_succ, List.set_cons_zero]
theorem gH_0 (H : Heap) (X : List PV) (L : List Bool) : (gH H X L)[H.length]? = some ⟨28, 0, X⟩ := hp0 _ _ _
theorem gH_1 (H : Heap) (X : List PV) (L : List Bool) : (gH H X L)[H.length + 1]? = some ⟨31, 0, [.int .i64 0, .slice [] 0 true]⟩ := hp1 _ _ _ _
theorem gH_2 (H : Heap) (X : List PV) (L : List Bool) : (gH H X L)[H.length + 2]? = some (wA (H.length + 3) L) := hp2 _ _ _ _ _
theorem gH_3 (H : Heap) (X : List PV) (L : List Bool) : (gH H X L)[H.length + 3]? = some (wB L) := hp3 _ _ _ _ _ _

set_option maxHeartbeats 4000000 in
theorem putg_ok (c b : Bool) (t : Int) (H : Heap) (ht : i64r t) : CallOk Tryz.prog 12 [.agg [.bool c, .bool b, .int .i64 t]] H (.tup [uv (putG c b t).1 (putG c b t).2.1, .int .i64 (putG c b t).2.2]) H := by
  generalize hr : putG c b t = r
  unfold putG at hr
  refine CallOk.body (F0 := [(0, .agg [.bool c, .bool b, .int .i64 t])]) Tryz.func12 rfl Tryz.ntmps12 Tryz.results12 rfl (by kernel_rfl) rfl ?_
  (repeat refine PW.seq ?_); refine PW.rg rfl fun K hK => ?_; simp (maxSteps := 3000000) (disch := omega) only [go_sem, ↓reduceIte, reduceCtorEq, pappend, plen]; refine hK _ _ ?_; clear hK K
  by_cases hc : 0 ≤ t ∧ t < 16777216
  rotate_left
  · rw [if_neg hc] at hr
    suffices hrest : PW Tryz.prog _ _ [(1, .ptr H.length 0 0), (2, .ptr (H.length + 1) 0 0), (12, .bool true)] (H ++ [⟨28, 0, [.bool c, .bool b, .int .i64 t]⟩, ⟨31, 0, [.int .i64 0, .slice [] 0 true]⟩]) _ by
      by_cases h0 : t < 0
      · have d0 : decide (t < 0) = true := decide_eq_true h0
        (repeat refine PW.seq ?_); refine PW.rg rfl fun K hK => ?_; simp (maxSteps := 3000000) (disch := omega) only [go_sem, ↓reduceIte, reduceCtorEq, pappend, plen, d0]; refine hK _ _ ?_; clear hK K
        exact PW.at [1, 2, 12] hrest rfl rfl
      · have d0 : decide (t < 0) = false := decide_eq_false h0
        have d1 : decide (16777216 ≤ t) = true := decide_eq_true (by omega)
        (repeat refine PW.seq ?_); refine PW.rg rfl fun K hK => ?_; simp (maxSteps := 3000000) (disch := omega) only [go_sem, ↓reduceIte, reduceCtorEq, pappend, plen, d0, d1]; refine hK _ _ ?_; clear hK K
        exact PW.at [1, 2, 12] hrest rfl rfl
    (repeat refine PW.seq ?_); refine PW.cond (t := _) rfl (fun h => ?_) (fun h => ?_)
    rotate_left
    · cases h
    (repeat refine PW.seq ?_); refine PW.rg rfl fun K hK => ?_; simp (maxSteps := 3000000) (disch := omega) only [go_sem, ↓reduceIte, reduceCtorEq, pappend, plen]; refine hK _ _ ?_; clear hK K
    refine PW.ret ⟨.tup [.agg [.int .i64 0, .slice [] 0 true], .int .i64 1], by simp (maxSteps := 3000000) (disch := omega) only [go_sem, ↓reduceIte, reduceCtorEq, pappend, plen, presults, presult, List.mapM_cons, List.mapM_nil, Option.pure_def, Option.bind_eq_bind, Option.bind_some, Array.toList], ?_⟩
    rw [← hr]
    exact Fin.base (Fz.tupC ⟨Fz.aggC ⟨.id (.int _ _), .slice rfl (fun j x y hx => by simp at hx) (fun e => by cases e), trivial⟩, .id (.int _ _), trivial⟩)
  rw [if_pos hc] at hr
  have d0 : decide (t < 0) = false := decide_eq_false (by omega)
  have d1 : decide (16777216 ≤ t) = false := decide_eq_false (by omega)
  (repeat refine PW.seq ?_); refine PW.rg rfl fun K hK => ?_; simp (maxSteps := 3000000) (disch := omega) only [go_sem, ↓reduceIte, reduceCtorEq, pappend, plen, d0, d1]; refine hK _ _ ?_; clear hK K
  (repeat refine PW.seq ?_); refine PW.cond (t := _) rfl (fun h => ?_) (fun h => ?_)
  · cases h
  refine PW.skip ?_
  (repeat refine PW.seq ?_); refine PW.rg rfl fun K hK => ?_; simp (maxSteps := 3000000) (disch := omega) only [go_sem, ↓reduceIte, reduceCtorEq, pappend, plen]; refine VCx.call (neww_ok _) rfl ?_; simp (maxSteps := 3000000) (disch := omega) only [go_sem, ↓reduceIte, reduceCtorEq, pappend, plen]; refine hK _ _ ?_; clear hK K
  refine PW.view (Vs.ghostH (id := H.length + 2) (j := 0) 5 1 (hp2 _ _ _ _ _) rfl) ?_
  obtain ⟨X, hX⟩ : ∃ X, X = [PV.bool c, .bool b, .int .i64 t] := ⟨_, rfl⟩
  refine PW.at [1, 2, 4] (F1 := [(1, .ptr H.length 0 0), (2, .ptr (H.length + 1) 0 0), (4, .ptr (H.length + 2) 0 0)]) (H1 := gH H X []) ?_ rfl (by unfold gH; rw [wA0, wB0, hX]; simp [hs2])
  have p1 : ∀ (L : List Bool) (V n : Nat), n ≤ 32 → V < 2 ^ n → L.length ≤ 1000000 → CallOk Tryz.prog 32 [.ptr (H.length + 2) 0 0, .int .u32 (V : Int), .int .i64 (n : Int)] (gH H X L) (.int .i64 0) (gH H X (L ++ vbits V n)) := fun L V n hn hV hL => by
    have := put_ok (H.length + 2) (H.length + 3) L V n (gH H X L) (gH_2 H X L) (gH_3 H X L) (by omega) hn (Nat.div_eq_of_lt hV) (by omega)
    rwa [two_gH] at this
  have p2 : ∀ (L : List Bool) (b : Bool), L.length ≤ 1000000 → CallOk Tryz.prog 33 [.ptr (H.length + 2) 0 0, .bool b] (gH H X L) (.tup []) (gH H X (L ++ [b])) := fun L b hL => by
    have := pflag_ok (H.length + 2) (H.length + 3) L b (gH H X L) (gH_2 H X L) (gH_3 H X L) (by omega) (by omega)
    rwa [two_gH] at this
  have g0 : ∀ L, (gH H X L)[H.length]? = some ⟨28, 0, [.bool c, .bool b, .int .i64 t]⟩ := fun L => by rw [gH_0, hX]
  have q1 := p2 [] c (by simp)
  (repeat refine PW.seq ?_); refine PW.rg rfl fun K hK => ?_; simp (maxSteps := 3000000) (disch := omega) only [go_sem, ↓reduceIte, reduceCtorEq, pappend, plen, g0]; refine VCx.call (q1) rfl ?_; simp (maxSteps := 3000000) (disch := omega) only [go_sem, ↓reduceIte, reduceCtorEq, pappend, plen]; refine hK _ _ ?_; clear hK K
  have q2 := p2 [c] b (by simp)
  (repeat refine PW.seq ?_); refine PW.rg rfl fun K hK => ?_; simp (maxSteps := 3000000) (disch := omega) only [go_sem, ↓reduceIte, reduceCtorEq, pappend, plen, g0]; refine VCx.call (q2) rfl ?_; simp (maxSteps := 3000000) (disch := omega) only [go_sem, ↓reduceIte, reduceCtorEq, pappend, plen]; refine hK _ _ ?_; clear hK K
  have q3 := p1 [c, b] t.toNat 24 (by omega) (by omega) (by simp)
  have et : t = (t.toNat : Int) := by omega
  rw [← et] at q3
  (repeat refine PW.seq ?_); refine PW.rg rfl fun K hK => ?_; simp (maxSteps := 3000000) (disch := omega) only [go_sem, ↓reduceIte, reduceCtorEq, pappend, plen, g0]; refine VCx.call (q3) rfl ?_; simp (maxSteps := 3000000) (disch := omega) only [go_sem, ↓reduceIte, reduceCtorEq, pappend, plen]; refine hK _ _ ?_; clear hK K
  have hgb : gbits c b t = c :: b :: vbits t.toNat 24 := rfl
  have hgl : (gbits c b t).length = 26 := by simp [gbits, vbits_len]
  rw [← hgb]
  have q9 := payload_ok (H.length + 2) (H.length + 3) (gbits c b t) (gH H X (gbits c b t)) (gH_2 H X _) (gH_3 H X _) (by omega)
  (repeat refine PW.seq ?_); refine PW.rg rfl fun K hK => ?_; simp (maxSteps := 3000000) (disch := omega) only [go_sem, ↓reduceIte, reduceCtorEq, pappend, plen]; refine VCx.call (q9) rfl ?_; simp (maxSteps := 3000000) (disch := omega) only [go_sem, ↓reduceIte, reduceCtorEq, pappend, plen, gH_1]; refine hK _ _ ?_; clear hK K
  generalize hP : pk (gbits c b t ++ [true]) = P at *
  have hE : (gH H X (gbits c b t)).set (H.length + 1) ⟨31, 0, [.int .i64 184, .slice (bs P) P.length false]⟩ = H ++ [⟨28, 0, X⟩, ⟨31, 0, [.int .i64 184, .slice (bs P) P.length false]⟩, wA (H.length + 3) (gbits c b t), wB (gbits c b t)] := hs1 _ _ _ _ _
  refine PW.eq rfl hE ?_
  refine PW.ret ⟨.tup [.agg [.int .i64 184, .slice (bs P) P.length false], .int .i64 0], by simp (maxSteps := 3000000) (disch := omega) only [go_sem, ↓reduceIte, reduceCtorEq, pappend, plen, presults, presult, List.mapM_cons, List.mapM_nil, Option.pure_def, Option.bind_eq_bind, Option.bind_some, Array.toList], ?_⟩
  rw [← hr]
  exact Fin.base (.id (uve_scoped _ _ _ _))

end Go.Proofs.YtnnkohejhnjflaaGreatDoor.Sc

namespace Go.Proofs.YtnnkohejhnjflaaGreatDoor.Sc
set_option linter.all false
set_option linter.unusedVariables false
set_option linter.unusedSimpArgs false
open Pm Ty Go.RowKit

theorem flag_ref (b : Bool) (H : Heap) : CallOk Tryz.prog 40 [.bool b] H (.int .u8 (b.toNat : Int)) H := by
  refine CallOk.body (F0 := [(0, .bool b)]) Tryz.func40 rfl Tryz.ntmps40 Tryz.results40 rfl (by kernel_rfl) rfl ?_
  cases b <;> (repeat' (first | refine PW.seq ?_ | refine PW.skip ?_ | refine PW.block ?_ | (refine PW.rg rfl fun K hK => ?_; simp (maxSteps := 3000000) (disch := omega) only [go_sem, ↓reduceIte, reduceCtorEq, pappend, plen]) | (refine PW.draw mix (by kernel_rfl) fun K hK => ?_; simp (maxSteps := 3000000) (disch := omega) only [go_sem, ↓reduceIte, reduceCtorEq, pappend, plen]) | (refine PW.drawg mix (by kernel_rfl) fun K hK => ?_; simp (maxSteps := 3000000) (disch := omega) only [go_sem, ↓reduceIte, reduceCtorEq, pappend, plen]) | (refine PW.drawt [] [] mix (by kernel_rfl) fun K hK => ?_; simp (maxSteps := 3000000) (disch := omega) only [go_sem, ↓reduceIte, reduceCtorEq, pappend, plen]) | ((first | refine VO_cond (fun h => ?_) (fun h => ?_) | refine VOd_cond (fun h => ?_) (fun h => ?_) | refine VOg_cond (fun h => ?_) (fun h => ?_) | refine VOh_cond (fun h => ?_) (fun h => ?_) | refine VOi_cond (fun h => ?_) (fun h => ?_) | refine And.intro (fun h => ?_) (fun h => ?_)) <;> (try simp only [Bool.not_eq_true', Bool.not_eq_false', decide_eq_true_eq, decide_eq_false_iff_not] at h) <;> simp (maxSteps := 3000000) (disch := omega) only [go_sem, ↓reduceIte, reduceCtorEq, pappend, plen, h]) | (refine hK _ _ ?_; clear hK K) | (refine PW.cond (t := _) rfl (fun h => ?_) (fun h => ?_) <;> (try (cases h; done)) <;> (try simp only [Bool.not_eq_true', Bool.not_eq_false', decide_eq_true_eq, decide_eq_false_iff_not] at h))))
  all_goals ((refine PW.ret ⟨_, rfl, ?_⟩; first | refine .inl ⟨?_, rfl⟩ | refine Fin.base (.id' ?_ (.bool _)) | refine Fin.base (.id' ?_ (.int _ _))); rfl)
theorem zlen (L : List Bool) : (bs (zb L)).length = L.length := by rw [length_bs, zb_len]
theorem bs_zb_app (L M : List Bool) : bs (zb (L ++ M)) = bs (zb L) ++ bs (zb M) := by rw [zb_append, bs_append]
/-- What 'matrix' has in memory. -/
def xH (H : Heap) (m u : List UInt8) (L : List Bool) : Heap := H ++ [⟨24, 0, bs m⟩, ⟨24, 0, bs u⟩, ⟨5, L.length, bs (zb L)⟩, ⟨137, 0, scV⟩]
theorem xH_l (H : Heap) (m u : List UInt8) (L : List Bool) : (xH H m u L).length = H.length + 4 := by simp [xH]
theorem xH_sc (H : Heap) (m u : List UInt8) (L : List Bool) (h : HSc H) : HSc (xH H m u L) := hscW (fun b hb x hx => by
  simp only [List.mem_cons, List.not_mem_nil, or_false] at hb
  simp only [List.length_cons, List.length_nil]
  rcases hb with rfl | rfl | rfl | rfl
  · exact bs_scoped _ _ x hx
  · exact bs_scoped _ _ x hx
  · exact bs_scoped _ _ x hx
  · simp only [scV, List.mem_map] at hx
    obtain ⟨n, _, rfl⟩ := hx
    exact .int _ _) h

set_option maxHeartbeats 4000000 in
theorem matrix_ref (m u : List UInt8) (H : Heap) (hm : m.length = 64) (hu : u.length = 64) :
    CallOk Tryz.prog 41 [.agg (bs m), .agg (bs u)] H (.slice (bs (zb (mxb m u))) (mxb m u).length false) H := by
  have e1 := eqB m u hm hu
  have am : (bs m).all PV.cell = true := by simp [bs, PV.cell]
  have au : (bs u).all PV.cell = true := by simp [bs, PV.cell]
  have lm : (bs m).length = 64 := by rw [length_bs]; exact hm
  have lu : (bs u).length = 64 := by rw [length_bs]; exact hu
  have tm : List.take 64 (bs m) = bs m := List.take_of_length_le (by omega)
  have tu : List.take 64 (bs u) = bs u := List.take_of_length_le (by omega)
  have sl : scV.length = 64 := rfl
  have sc' : scV.all PV.cell = true := by decide +kernel
  have sd : List.drop 64 scV = [] := rfl
  have bg : ∀ p, p < 64 → (bs m)[sk p]? = some (.int .u8 ((m.getD (sk p) 0).toNat : Int)) := fun p hp => by
    rw [bs_get _ _ (by rw [hm]; exact sk_lt p hp)]; rfl
  refine CallOk.body (F0 := [(0, .agg (bs m)), (1, .agg (bs u))]) Tryz.func41 rfl Tryz.ntmps41 Tryz.results41 rfl (by kernel_rfl) rfl ?_
  (repeat refine PW.seq ?_); refine PW.rg rfl fun K hK => ?_; simp (maxSteps := 3000000) (disch := omega) only [go_sem, ↓reduceIte, reduceCtorEq, pappend, plen, am, au]; refine hK _ _ ?_; clear hK K
  (repeat refine PW.seq ?_); refine PW.rg rfl fun K hK => ?_; simp (maxSteps := 3000000) (disch := omega) only [go_sem, ↓reduceIte, reduceCtorEq, pappend, plen, lm, lu, tm, tu, e1]; refine hK _ _ ?_; clear hK K
  cases he : (m == u) with
  | true =>
    have hmu : mxb m u = [false] := by unfold mxb; rw [if_pos (by simpa using he)]
    (repeat refine PW.seq ?_); refine PW.cond (t := _) rfl (fun h => ?_) (fun h => ?_)
    rotate_left
    · cases h
    (repeat refine PW.seq ?_); refine PW.rg rfl fun K hK => ?_; simp (maxSteps := 3000000) (disch := omega) only [go_sem, ↓reduceIte, reduceCtorEq, pappend, plen]; refine hK _ _ ?_; clear hK K
    refine PW.ret ⟨.slice [.int .u8 0] 1 true, by simp (maxSteps := 3000000) (disch := omega) only [go_sem, ↓reduceIte, reduceCtorEq, pappend, plen, presults, presult, List.mapM_cons, List.mapM_nil, Option.pure_def, Option.bind_eq_bind, Option.bind_some, Array.toList], ?_⟩
    rw [hmu]
    exact Fin.base (Fz.sliceC ⟨.id (.int _ _), trivial⟩ (fun e => by cases e))
  | false =>
    have hmu : mxb m u = true :: mxe m 64 := by unfold mxb; rw [if_neg (by simpa using he)]
    (repeat refine PW.seq ?_); refine PW.cond (t := _) rfl (fun h => ?_) (fun h => ?_)
    · cases h
    refine PW.skip ?_
    (repeat refine PW.seq ?_)
    refine PW.view (Vs.place 5) ?_
    refine PW.eq rfl (show _ = H ++ [⟨24, 0, bs m⟩, ⟨24, 0, bs u⟩, ⟨5, 0, []⟩] from List.append_assoc _ _ _) ?_
    (repeat refine PW.seq ?_); refine PW.seqi [H.length + 2] [(12, 0)] rfl fun K hK => ?_
    simp (maxSteps := 3000000) (disch := omega) only [go_sem, ↓reduceIte, reduceCtorEq, pappend, plen]
    refine hK _ _ ?_; clear hK K
    (repeat refine PW.seq ?_); refine PW.rg rfl fun K hK => ?_; simp (maxSteps := 3000000) (disch := omega) only [go_sem, ↓reduceIte, reduceCtorEq, pappend, plen, sc']; refine VCx.call (scan_ref _) rfl ?_; simp (maxSteps := 3000000) (disch := omega) only [go_sem, ↓reduceIte, reduceCtorEq, pappend, plen, sc']; refine hK _ _ ?_; clear hK K
    (repeat refine PW.seq ?_); refine PW.rg rfl fun K hK => ?_; simp (maxSteps := 3000000) (disch := omega) only [go_sem, ↓reduceIte, reduceCtorEq, pappend, plen]; refine hK _ _ ?_; clear hK K
    have fin : ∀ L : List Bool, Fin H (.slice (bs (zb L)) L.length false) H (.msl (H.length + 2) L.length 0 L.length 1 true) (xH H m u L) := fun L =>
      Fin.base (Fz.mslC (e := 5) (xs := bs (zb L)) (by omega) (hp2 _ _ _ _ _) (by rw [zlen, Nat.mul_one]) (FzC.refl (bs_scoped _ _)))
    have g0 : ∀ L K, (xH H m u L ++ K)[H.length]? = some ⟨24, 0, bs m⟩ := fun L K => by rw [List.getElem?_append_left (by rw [xH_l]; omega)]; exact hp0 _ _ _
    have g2 : ∀ L K, (xH H m u L ++ K)[H.length + 2]? = some ⟨5, L.length, bs (zb L)⟩ := fun L K => by rw [List.getElem?_append_left (by rw [xH_l]; omega)]; exact hp2 _ _ _ _ _
    have g3 : ∀ L K, (xH H m u L ++ K)[H.length + 3]? = some ⟨137, 0, scV⟩ := fun L K => by rw [List.getElem?_append_left (by rw [xH_l]; omega)]; exact hp3 _ _ _ _ _ _
    have s2 : ∀ L K X, (xH H m u L ++ K).set (H.length + 2) X = (H ++ [⟨24, 0, bs m⟩, ⟨24, 0, bs u⟩, X, ⟨137, 0, scV⟩]) ++ K := fun L K X => by
      unfold xH
      rw [List.append_assoc, aps, List.append_assoc]; rfl
    (repeat refine PW.seq ?_); refine PW.block (PW.loop ?_)
    suffices hloop : ∀ (k : Nat) (L : List Bool), k ≤ 64 → L = true :: mxe m k → PL Tryz.prog _ _ [(2, .ptr H.length 0 0), (5, .msl (H.length + 2) L.length 0 L.length 1 true), (6, .ptr (H.length + 3) 0 0), (7, .int .i64 (k : Int))] (xH H m u L) _ by
      exact PL.at [2, 5, 6, 7] (hloop 0 [true] (by omega) rfl) rfl (by unfold xH; rfl)
    intro k L hk hL
    induction hd : 64 - k using Nat.strongRecOn generalizing k L with
    | _ n ih =>
      refine PL.round ?_; (repeat refine PW.seq ?_); refine PW.rg rfl fun K hK => ?_; simp (maxSteps := 3000000) (disch := omega) only [go_sem, ↓reduceIte, reduceCtorEq, pappend, plen]; refine hK _ _ ?_; clear hK K
      (repeat refine PW.seq ?_); refine PW.cond (t := _) rfl (fun h => ?_) (fun h => ?_)
      · have h4 : k < 64 := by have := of_decide_eq_true h; omega
        have s1 := scV_at k h4
        have b1 := bg k h4
        have b2 := sk_lt k h4
        have hLl : L.length = 1 + k * 8 := by rw [hL, List.length_cons, mxe_len]; omega
        have hv : (m.getD (sk k) 0).toNat < 256 := UInt8.toNat_lt _
        have hnext := ih (64 - (k + 1)) (by omega) (k + 1) (L ++ vbits (m.getD (sk k) 0).toNat 8) (by omega) (by rw [hL, mxe, List.cons_append]) rfl
        clear hL
        have zL := zlen L
        have g0' := g0 L []
        have g3' := g3 L []
        rw [List.append_nil] at g0' g3'
        generalize (m.getD (sk k) 0).toNat = V at *
        generalize sk k = q at *
        have vl8 := vbits_len V 8
        have z8 := zlen (vbits V 8)
        have t8 : List.take 8 (bs (zb (vbits V 8))) = bs (zb (vbits V 8)) := List.take_of_length_le (by omega)
        refine PW.skip ?_; (repeat refine PW.seq ?_); refine PW.block ?_
        (repeat refine PW.seq ?_); refine PW.rg rfl fun K hK => ?_; simp (maxSteps := 3000000) (disch := omega) only [go_sem, ↓reduceIte, reduceCtorEq, pappend, plen, g0', g3', lm, b1, s1, sl]; refine VCx.call (bits_ref V 8 _ (by omega)) rfl ?_; simp (maxSteps := 3000000) (disch := omega) only [go_sem, ↓reduceIte, reduceCtorEq, pappend, plen, g2, zL, z8, vl8, t8, s2, List.length_append]; refine hK _ _ ?_; clear hK K
        (repeat refine PW.seq ?_); refine PW.rg rfl fun K hK => ?_; simp (maxSteps := 3000000) (disch := omega) only [go_sem, ↓reduceIte, reduceCtorEq, pappend, plen]; refine hK _ _ ?_; clear hK K
        have ap := bs_zb_app L (vbits V 8)
        have apl : (L ++ vbits V 8).length = L.length + 8 := by rw [List.length_append, vl8]
        refine PL.keep [7, 2, 5, 6] ?_
        refine PL.view (Vs.trim (F1 := [(2, .ptr H.length 0 0), (5, .msl (H.length + 2) (L ++ vbits V 8).length 0 (L ++ vbits V 8).length 1 true), (6, .ptr (H.length + 3) 0 0), (7, .int .i64 ((k + 1 : Nat) : Int))]) (H1 := xH H m u (L ++ vbits V 8)) (xH_sc H m u _) (by show H.length ≤ _; rw [xH_l]; omega) (by unfold xH; rw [ap, apl]; exact (List.append_assoc _ [_, _, _, _] [_]).symm) ?_) hnext
        rw [xH_l, apl]
        exact ⟨.id (.ptr (by omega)), .id (.msl (by omega)), .id (.ptr (by omega)), .id (.int _ _), trivial⟩
      · have h4 : k = 64 := by have := of_decide_eq_false h; omega
        subst h4
        refine PW.exit ?_
        (repeat refine PW.seq ?_); refine PW.rg rfl fun K hK => ?_; simp (maxSteps := 3000000) (disch := omega) only [go_sem, ↓reduceIte, reduceCtorEq, pappend, plen]; refine hK _ _ ?_; clear hK K
        rw [← hmu] at hL
        subst hL
        exact PW.ret ⟨_, rfl, fin _⟩
/-- What the reference's PutSeq has in memory. -/
def rH (H : Heap) (s : Sq) (L : List Bool) : Heap := H ++ [⟨26, 0, sqc s⟩, ⟨31, 0, [.int .i64 0, .slice [] 0 true]⟩, ⟨5, L.length, bs (zb L)⟩]
theorem rH_l (H : Heap) (s : Sq) (L : List Bool) : (rH H s L).length = H.length + 3 := by simp [rH]
theorem rH_sc (H : Heap) (s : Sq) (L : List Bool) (h : HSc H) : HSc (rH H s L) := hscW (fun b hb x hx => by
  simp only [List.mem_cons, List.not_mem_nil, or_false] at hb
  simp only [List.length_cons, List.length_nil]
  rcases hb with rfl | rfl | rfl
  · exact sqc_scoped _ _ x hx
  · simp only [List.mem_cons, List.not_mem_nil, or_false] at hx
    rcases hx with rfl | rfl
    · exact .int _ _
    · exact sl_scoped (fun y hy => by cases hy)
  · exact bs_scoped _ _ x hx) h
theorem rH_0 (H : Heap) (s : Sq) (L : List Bool) : (rH H s L)[H.length]? = some ⟨26, 0, sqc s⟩ := hp0 _ _ _
theorem rH_2 (H : Heap) (s : Sq) (L : List Bool) (K : Heap) : (rH H s L ++ K)[H.length + 2]? = some ⟨5, L.length, bs (zb L)⟩ := by
  rw [List.getElem?_append_left (by rw [rH_l]; omega)]; exact hp2 _ _ _ _ _
theorem rH_s (H : Heap) (s : Sq) (L : List Bool) (K : Heap) (X : Blk) : (rH H s L ++ K).set (H.length + 2) X = (H ++ [⟨26, 0, sqc s⟩, ⟨31, 0, [.int .i64 0, .slice [] 0 true]⟩, X]) ++ K := by
  unfold rH
  rw [List.append_assoc, aps, List.append_assoc]; rfl
def rF (H : Heap) (L : List Bool) : Fr := [(1, .ptr H.length 0 0), (2, .ptr (H.length + 1) 0 0), (4, .msl (H.length + 2) L.length 0 L.length 1 true)]
/-- One more part has been appended. -/
theorem rH_next {P : Program} {N : Nat} {H : Heap} {s : Sq} {L M : List Bool} {c : Code} {F : Fr} {X : Blk} {n : Nat} {Q : Exit → Fr → Heap → Prop} (hn : n = L.length + M.length) (hF : kp [1, 2, 4] F = [(1, .ptr H.length 0 0), (2, .ptr (H.length + 1) 0 0), (4, .msl (H.length + 2) n 0 n 1 true)])
    (h : PW P ⟨N, H⟩ c (rF H (L ++ M)) (rH H s (L ++ M)) Q) : PW P ⟨N, H⟩ c F (H ++ [⟨26, 0, sqc s⟩, ⟨31, 0, [.int .i64 0, .slice [] 0 true]⟩, ⟨5, n, bs (zb L) ++ bs (zb M)⟩, X]) Q := by
  subst hn
  refine PW.keep [1, 2, 4] ?_
  rw [hF]
  refine PW.view (Vs.trim (F1 := rF H (L ++ M)) (H1 := rH H s (L ++ M)) (K := [X]) (rH_sc H s _) (by show H.length ≤ _; rw [rH_l]; omega) (by unfold rH; rw [bs_zb_app, List.length_append]; exact (List.append_assoc _ [_, _, _] [_]).symm) ?_) h
  rw [rH_l, rF, List.length_append]
  exact ⟨.id (.ptr (by omega)), .id (.ptr (by omega)), .id (.msl (by omega)), trivial⟩
theorem rH_next0 {P : Program} {N : Nat} {H : Heap} {s : Sq} {L M : List Bool} {c : Code} {F : Fr} {n : Nat} {C : List PV} {Q : Exit → Fr → Heap → Prop} (hn : n = L.length + M.length) (hC : bs (zb M) = C) (hF : kp [1, 2, 4] F = [(1, .ptr H.length 0 0), (2, .ptr (H.length + 1) 0 0), (4, .msl (H.length + 2) n 0 n 1 true)])
    (h : PW P ⟨N, H⟩ c (rF H (L ++ M)) (rH H s (L ++ M)) Q) : PW P ⟨N, H⟩ c F (H ++ [⟨26, 0, sqc s⟩, ⟨31, 0, [.int .i64 0, .slice [] 0 true]⟩, ⟨5, n, bs (zb L) ++ C⟩]) Q := by
  subst hn hC
  exact PW.at [1, 2, 4] h (by rw [hF, rF, List.length_append]) (by unfold rH; rw [bs_zb_app, List.length_append])
theorem mxb_pos (m u : List UInt8) : 0 < (mxb m u).length := by unfold mxb; split <;> simp
theorem zb_one (b : Bool) : bs (zb [b]) = [.int .u8 (b.toNat : Int)] := by cases b <;> rfl

set_option maxHeartbeats 4000000 in
theorem puts_ref (s : Sq) (H : Heap) (hs : SqOk s) : CallOk Tryz.prog 9 [.agg (sqc s)] H (.tup [uv (putS s).1 (putS s).2.1, .int .i64 (putS s).2.2]) H := by
  have hvo := fun K => vseq_ref s K hs
  have hcl := sqc_cell' s
  have hln : (bs s.ia ++ bs s.ie).length = 128 := by simp [length_bs, hs.ia, hs.ie]
  have htk := sq_all s.ia s.ie hs.ia hs.ie
  have tia := sq_ia s.ia s.ie hs.ia
  have tie := sq_ie s.ia s.ie hs.ia
  have tk := sq_tk s.ie hs.ie
  have lia : (bs s.ia).length = 64 := by rw [length_bs]; exact hs.ia
  have lie : (bs s.ie).length = 64 := by rw [length_bs]; exact hs.ie
  generalize hr : putS s = r
  unfold putS at hr
  refine CallOk.body (F0 := [(0, .agg (sqc s))]) Tryz.func9 rfl Tryz.ntmps9 Tryz.results9 rfl (by kernel_rfl) rfl ?_
  (repeat refine PW.seq ?_); refine PW.rg rfl fun K hK => ?_; simp (maxSteps := 3000000) (disch := omega) only [go_sem, ↓reduceIte, reduceCtorEq, pappend, plen, hcl]; refine hK _ _ ?_; clear hK K
  cases hv : vseq s with
  | false =>
    rw [hv, if_neg (by decide)] at hr
    rw [hv] at hvo
    (repeat refine PW.seq ?_); refine PW.rg rfl fun K hK => ?_; simp (maxSteps := 3000000) (disch := omega) only [go_sem, ↓reduceIte, reduceCtorEq, pappend, plen, sqc, hln, htk]
    refine VCx.call (hvo _) rfl ?_; simp (maxSteps := 3000000) (disch := omega) only [go_sem, ↓reduceIte, reduceCtorEq, pappend, plen]; refine hK _ _ ?_; clear hK K
    (repeat refine PW.seq ?_); refine PW.cond (t := _) rfl (fun h => ?_) (fun h => ?_)
    rotate_left
    · cases h
    (repeat refine PW.seq ?_); refine PW.rg rfl fun K hK => ?_; simp (maxSteps := 3000000) (disch := omega) only [go_sem, ↓reduceIte, reduceCtorEq, pappend, plen]; refine hK _ _ ?_; clear hK K
    refine PW.ret ⟨.tup [.agg [.int .i64 0, .slice [] 0 true], .int .i64 1], by simp (maxSteps := 3000000) (disch := omega) only [go_sem, ↓reduceIte, reduceCtorEq, pappend, plen, presults, presult, List.mapM_cons, List.mapM_nil, Option.pure_def, Option.bind_eq_bind, Option.bind_some, Array.toList], ?_⟩
    rw [← hr]
    exact Fin.base (Fz.tupC ⟨Fz.aggC ⟨.id (.int _ _), .slice rfl (fun j x y hx => by simp at hx) (fun e => by cases e), trivial⟩, .id (.int _ _), trivial⟩)
  | true =>
    rw [hv, if_pos rfl] at hr
    rw [hv] at hvo
    obtain ⟨v1, v2, v3, v4, v5, v6⟩ := vseq_f hv
    (repeat refine PW.seq ?_); refine PW.rg rfl fun K hK => ?_; simp (maxSteps := 3000000) (disch := omega) only [go_sem, ↓reduceIte, reduceCtorEq, pappend, plen, sqc, hln, htk]
    refine VCx.call (hvo _) rfl ?_; simp (maxSteps := 3000000) (disch := omega) only [go_sem, ↓reduceIte, reduceCtorEq, pappend, plen]; refine hK _ _ ?_; clear hK K
    (repeat refine PW.seq ?_); refine PW.cond (t := _) rfl (fun h => ?_) (fun h => ?_)
    · cases h
    refine PW.skip ?_
    have hw : s.w.tdiv 16 = ((s.w / 16).toNat : Int) := by rw [tdiv_pos _ _ (by omega)]; omega
    have hh : s.h.tdiv 16 = ((s.h / 16).toNat : Int) := by rw [tdiv_pos _ _ (by omega)]; omega
    have hwb : (s.w / 16).toNat ≤ 4 := by omega
    have hhb : (s.h / 16).toNat ≤ 4 := by omega
    have en : s.num = (s.num.toNat : Int) := by omega
    have ed : s.den = (s.den.toNat : Int) := by omega
    have er : s.br = (s.br.toNat : Int) := by omega
    have ef : s.bf = (s.bf.toNat : Int) := by omega
    have q1 := fun K => bits_ref (s.w / 16).toNat 8 K (by omega)
    obtain ⟨L1, h1⟩ : ∃ L, L = vbits (s.w / 16).toNat 8 := ⟨_, rfl⟩
    have n1 : L1.length = 8 := by rw [h1]; simp [vbits_len]
    have z1 := zlen L1
    rw [n1] at z1
    rw [← h1] at q1
    (repeat refine PW.seq ?_); refine PW.rg rfl fun K hK => ?_; simp (maxSteps := 3000000) (disch := omega) only [go_sem, ↓reduceIte, reduceCtorEq, pappend, plen, sqc, hw]; refine VCx.call (q1 _) rfl ?_; simp (maxSteps := 3000000) (disch := omega) only [go_sem, ↓reduceIte, reduceCtorEq, pappend, plen, z1]; refine hK _ _ ?_; clear hK K
    refine PW.at [1, 2, 4] (F1 := rF H L1) (H1 := rH H s L1) ?_ (by unfold rF; rw [n1]; rfl) (by unfold rH; rw [n1]; rfl)
    have q2 := fun K => bits_ref (s.h / 16).toNat 8 K (by omega)
    obtain ⟨M2, hM2⟩ : ∃ L, L = vbits (s.h / 16).toNat 8 := ⟨_, rfl⟩
    have k2 : M2.length = 8 := by rw [hM2]; simp [vbits_len]
    have z2 := zlen M2
    have y2 := zlen L1
    rw [← hM2] at q2
    have t2 : List.take 8 (bs (zb M2)) = bs (zb M2) := List.take_of_length_le (by omega)
    rw [k2] at z2
    (repeat refine PW.seq ?_); refine PW.rg rfl fun K hK => ?_; simp (maxSteps := 3000000) (disch := omega) only [go_sem, ↓reduceIte, reduceCtorEq, pappend, plen, rF, rH_0, sqc, hh]; refine VCx.call (q2 _) rfl ?_; simp (maxSteps := 3000000) (disch := omega) only [go_sem, ↓reduceIte, reduceCtorEq, pappend, plen, rH_2, z2, y2, t2, rH_s, n1, List.length_append, Nat.reduceAdd]; refine hK _ _ ?_; clear hK K
    refine rH_next (s := s) (L := L1) (M := M2) (by omega) (by rfl) ?_
    obtain ⟨L2, h2⟩ : ∃ L, L = L1 ++ M2 := ⟨_, rfl⟩
    have n2 : L2.length = 16 := by rw [h2, List.length_append]; omega
    rw [← h2]
    have q3 := fun K => bits_ref s.num.toNat 32 K (by omega)
    obtain ⟨M3, hM3⟩ : ∃ L, L = vbits s.num.toNat 32 := ⟨_, rfl⟩
    have k3 : M3.length = 32 := by rw [hM3]; simp [vbits_len]
    have z3 := zlen M3
    have y3 := zlen L2
    rw [← hM3] at q3
    rw [← en] at q3
    have t3 : List.take 32 (bs (zb M3)) = bs (zb M3) := List.take_of_length_le (by omega)
    rw [k3] at z3
    (repeat refine PW.seq ?_); refine PW.rg rfl fun K hK => ?_; simp (maxSteps := 3000000) (disch := omega) only [go_sem, ↓reduceIte, reduceCtorEq, pappend, plen, rF, rH_0, sqc]; refine VCx.call (q3 _) rfl ?_; simp (maxSteps := 3000000) (disch := omega) only [go_sem, ↓reduceIte, reduceCtorEq, pappend, plen, rH_2, z3, y3, t3, rH_s, n2, List.length_append, Nat.reduceAdd]; refine hK _ _ ?_; clear hK K
    refine rH_next (s := s) (L := L2) (M := M3) (by omega) (by rfl) ?_
    obtain ⟨L3, h3⟩ : ∃ L, L = L2 ++ M3 := ⟨_, rfl⟩
    have n3 : L3.length = 48 := by rw [h3, List.length_append]; omega
    rw [← h3]
    have q4 := fun K => bits_ref s.den.toNat 32 K (by omega)
    obtain ⟨M4, hM4⟩ : ∃ L, L = vbits s.den.toNat 32 := ⟨_, rfl⟩
    have k4 : M4.length = 32 := by rw [hM4]; simp [vbits_len]
    have z4 := zlen M4
    have y4 := zlen L3
    rw [← hM4] at q4
    rw [← ed] at q4
    have t4 : List.take 32 (bs (zb M4)) = bs (zb M4) := List.take_of_length_le (by omega)
    rw [k4] at z4
    (repeat refine PW.seq ?_); refine PW.rg rfl fun K hK => ?_; simp (maxSteps := 3000000) (disch := omega) only [go_sem, ↓reduceIte, reduceCtorEq, pappend, plen, rF, rH_0, sqc]; refine VCx.call (q4 _) rfl ?_; simp (maxSteps := 3000000) (disch := omega) only [go_sem, ↓reduceIte, reduceCtorEq, pappend, plen, rH_2, z4, y4, t4, rH_s, n3, List.length_append, Nat.reduceAdd]; refine hK _ _ ?_; clear hK K
    refine rH_next (s := s) (L := L3) (M := M4) (by omega) (by rfl) ?_
    obtain ⟨L4, h4⟩ : ∃ L, L = L3 ++ M4 := ⟨_, rfl⟩
    have n4 : L4.length = 80 := by rw [h4, List.length_append]; omega
    rw [← h4]
    have f5 := fun K => flag_ref s.il K
    have y5 := zlen L4
    have g5 := rH_2 H s L4 []
    have i5 := rH_s H s L4 []
    simp only [List.append_nil] at g5 i5
    (repeat refine PW.seq ?_); refine PW.rg rfl fun K hK => ?_; simp (maxSteps := 3000000) (disch := omega) only [go_sem, ↓reduceIte, reduceCtorEq, pappend, plen, rF, rH_0, sqc]; refine VCx.call (f5 _) rfl ?_; simp (maxSteps := 3000000) (disch := omega) only [go_sem, ↓reduceIte, reduceCtorEq, pappend, plen, g5, y5, i5, n4, List.length_append, Nat.reduceAdd]; refine hK _ _ ?_; clear hK K
    refine rH_next0 (s := s) (L := L4) (M := [s.il]) (by simp [n4]) (zb_one _) (by rfl) ?_
    obtain ⟨L5, h5⟩ : ∃ L, L = L4 ++ [s.il] := ⟨_, rfl⟩
    have n5 : L5.length = 81 := by rw [h5, List.length_append, n4]; rfl
    rw [← h5]
    have q6 := fun K => bits_ref s.br.toNat 32 K (by omega)
    obtain ⟨M6, hM6⟩ : ∃ L, L = vbits s.br.toNat 32 := ⟨_, rfl⟩
    have k6 : M6.length = 32 := by rw [hM6]; simp [vbits_len]
    have z6 := zlen M6
    have y6 := zlen L5
    rw [← hM6] at q6
    rw [← er] at q6
    have t6 : List.take 32 (bs (zb M6)) = bs (zb M6) := List.take_of_length_le (by omega)
    rw [k6] at z6
    (repeat refine PW.seq ?_); refine PW.rg rfl fun K hK => ?_; simp (maxSteps := 3000000) (disch := omega) only [go_sem, ↓reduceIte, reduceCtorEq, pappend, plen, rF, rH_0, sqc]; refine VCx.call (q6 _) rfl ?_; simp (maxSteps := 3000000) (disch := omega) only [go_sem, ↓reduceIte, reduceCtorEq, pappend, plen, rH_2, z6, y6, t6, rH_s, n5, List.length_append, Nat.reduceAdd]; refine hK _ _ ?_; clear hK K
    refine rH_next (s := s) (L := L5) (M := M6) (by omega) (by rfl) ?_
    obtain ⟨L6, h6⟩ : ∃ L, L = L5 ++ M6 := ⟨_, rfl⟩
    have n6 : L6.length = 113 := by rw [h6, List.length_append]; omega
    rw [← h6]
    have q7 := fun K => bits_ref s.bf.toNat 32 K (by omega)
    obtain ⟨M7, hM7⟩ : ∃ L, L = vbits s.bf.toNat 32 := ⟨_, rfl⟩
    have k7 : M7.length = 32 := by rw [hM7]; simp [vbits_len]
    have z7 := zlen M7
    have y7 := zlen L6
    rw [← hM7] at q7
    rw [← ef] at q7
    have t7 : List.take 32 (bs (zb M7)) = bs (zb M7) := List.take_of_length_le (by omega)
    rw [k7] at z7
    (repeat refine PW.seq ?_); refine PW.rg rfl fun K hK => ?_; simp (maxSteps := 3000000) (disch := omega) only [go_sem, ↓reduceIte, reduceCtorEq, pappend, plen, rF, rH_0, sqc]; refine VCx.call (q7 _) rfl ?_; simp (maxSteps := 3000000) (disch := omega) only [go_sem, ↓reduceIte, reduceCtorEq, pappend, plen, rH_2, z7, y7, t7, rH_s, n6, List.length_append, Nat.reduceAdd]; refine hK _ _ ?_; clear hK K
    refine rH_next (s := s) (L := L6) (M := M7) (by omega) (by rfl) ?_
    obtain ⟨L7, h7⟩ : ∃ L, L = L6 ++ M7 := ⟨_, rfl⟩
    have n7 : L7.length = 145 := by rw [h7, List.length_append]; omega
    rw [← h7]
    have y8 := zlen L7
    have x8 := mxb_len s.ia dIn
    have x8' := mxb_pos s.ia dIn
    have w8 := fun K => matrix_ref s.ia dIn K hs.ia dIn_len
    have z8 := zlen (mxb s.ia dIn)
    have t8 : List.take (mxb s.ia dIn).length (bs (zb (mxb s.ia dIn))) = bs (zb (mxb s.ia dIn)) := List.take_of_length_le (by omega)
    have g8 := rH_2 H s L7 []
    have i8 := rH_s H s L7 []
    simp only [List.append_nil] at g8 i8
    obtain ⟨M8, hM8⟩ : ∃ L, L = mxb s.ia dIn := ⟨_, rfl⟩
    rw [← hM8] at x8 x8' w8 z8 t8
    (repeat refine PW.seq ?_); refine PW.drawi [H.length + 2] [(4, [0]), (53, [0]), (58, [0])] [] [56, 57] mix (by kernel_rfl) (by simp <;> omega) fun K hK => ?_
    simp (maxSteps := 3000000) (disch := omega) only [go_sem, ↓reduceIte, reduceCtorEq, pappend, plen, rF, rH_0, sqc, tia, List.length_append, lia, lie]
    refine VCj.read (fun _ _ => din_ref _) rfl ?_; simp (maxSteps := 3000000) (disch := omega) only [go_sem, ↓reduceIte, reduceCtorEq, pappend, plen]
    refine VCj.read (fun _ _ => w8 _) rfl ?_; simp (maxSteps := 3000000) (disch := omega) only [go_sem, ↓reduceIte, reduceCtorEq, pappend, plen, g8, y8, z8, t8, i8, List.length_append]
    refine hK _ _ ?_; clear hK K
    refine rH_next0 (s := s) (L := L7) (M := M8) rfl rfl (by rfl) ?_
    obtain ⟨L8, h8⟩ : ∃ L, L = L7 ++ M8 := ⟨_, rfl⟩
    have n8 : L8.length ≤ 145 + 513 * 1 := by rw [h8, List.length_append]; omega
    rw [← h8]
    have y9 := zlen L8
    have x9 := mxb_len s.ie dIt
    have x9' := mxb_pos s.ie dIt
    have w9 := fun K => matrix_ref s.ie dIt K hs.ie dIt_len
    have z9 := zlen (mxb s.ie dIt)
    have t9 : List.take (mxb s.ie dIt).length (bs (zb (mxb s.ie dIt))) = bs (zb (mxb s.ie dIt)) := List.take_of_length_le (by omega)
    have g9 := rH_2 H s L8 []
    have i9 := rH_s H s L8 []
    simp only [List.append_nil] at g9 i9
    obtain ⟨M9, hM9⟩ : ∃ L, L = mxb s.ie dIt := ⟨_, rfl⟩
    rw [← hM9] at x9 x9' w9 z9 t9
    (repeat refine PW.seq ?_); refine PW.drawi [H.length + 2] [(4, [0]), (59, [0]), (64, [0])] [] [62, 63] mix (by kernel_rfl) (by simp <;> omega) fun K hK => ?_
    simp (maxSteps := 3000000) (disch := omega) only [go_sem, ↓reduceIte, reduceCtorEq, pappend, plen, rF, rH_0, sqc, tie, tk, List.length_append, lia, lie]
    refine VCj.read (fun _ _ => dit_ref _) rfl ?_; simp (maxSteps := 3000000) (disch := omega) only [go_sem, ↓reduceIte, reduceCtorEq, pappend, plen]
    refine VCj.read (fun _ _ => w9 _) rfl ?_; simp (maxSteps := 3000000) (disch := omega) only [go_sem, ↓reduceIte, reduceCtorEq, pappend, plen, g9, y9, z9, t9, i9, List.length_append]
    refine hK _ _ ?_; clear hK K
    refine rH_next0 (s := s) (L := L8) (M := M9) rfl rfl (by rfl) ?_
    obtain ⟨L9, h9⟩ : ∃ L, L = L8 ++ M9 := ⟨_, rfl⟩
    have n9 : L9.length ≤ 145 + 513 * 2 := by rw [h9, List.length_append]; omega
    rw [← h9]
    have hL : sbits s = L9 := by rw [h9, h8, h7, h6, h5, h4, h3, h2, h1, hM2, hM3, hM4, hM6, hM7, hM8, hM9]; simp [sbits]
    have hp : CallOk Tryz.prog 44 [.msl (H.length + 2) L9.length 0 L9.length 1 true] (rH H s L9)
        (.slice (bs (pk (L9 ++ [true]))) (pk (L9 ++ [true])).length false) (H ++ [⟨26, 0, sqc s⟩, ⟨31, 0, [.int .i64 0, .slice [] 0 true]⟩, ⟨5, L9.length + 1, []⟩]) := by
      refine CallOk.frz1 (args' := [.slice (bs (zb L9)) L9.length false]) (id := H.length + 2) (k := ⟨5, L9.length, bs (zb L9)⟩) (hp2 _ _ _ _ _) ?_ ⟨.inr ⟨L9.length, 1, true, rfl, by rw [zlen, Nat.mul_one], rfl⟩, trivial⟩
      unfold rH
      rw [hs2]
      exact payload_ref L9 false _ (by omega)
    (repeat refine PW.seq ?_); refine PW.rg rfl fun K hK => ?_; simp (maxSteps := 3000000) (disch := omega) only [go_sem, ↓reduceIte, reduceCtorEq, pappend, plen, rF]; refine VCx.call (hp) rfl ?_; simp (maxSteps := 3000000) (disch := omega) only [go_sem, ↓reduceIte, reduceCtorEq, pappend, plen]; refine hK _ _ ?_; clear hK K
    generalize hP : pk (L9 ++ [true]) = P at *
    refine PW.ret ⟨.tup [.agg [.int .i64 179, .slice (bs P) P.length false], .int .i64 0], by simp (maxSteps := 3000000) (disch := omega) only [go_sem, ↓reduceIte, reduceCtorEq, pappend, plen, presults, presult, List.mapM_cons, List.mapM_nil, Option.pure_def, Option.bind_eq_bind, Option.bind_some, Array.toList], ?_⟩
    rw [← hr, hL, hP]
    exact Fin.base (.id (uve_scoped _ _ _ _))


set_option maxHeartbeats 4000000 in
theorem putg_ref (c b : Bool) (t : Int) (H : Heap) (ht : i64r t) : CallOk Tryz.prog 13 [.agg [.bool c, .bool b, .int .i64 t]] H (.tup [uv (putG c b t).1 (putG c b t).2.1, .int .i64 (putG c b t).2.2]) H := by
  generalize hr : putG c b t = r
  unfold putG at hr
  refine CallOk.body (F0 := [(0, .agg [.bool c, .bool b, .int .i64 t])]) Tryz.func13 rfl Tryz.ntmps13 Tryz.results13 rfl (by kernel_rfl) rfl ?_
  (repeat refine PW.seq ?_); refine PW.rg rfl fun K hK => ?_; simp (maxSteps := 3000000) (disch := omega) only [go_sem, ↓reduceIte, reduceCtorEq, pappend, plen]; refine hK _ _ ?_; clear hK K
  by_cases hc : 0 ≤ t ∧ t < 16777216
  rotate_left
  · rw [if_neg hc] at hr
    suffices hrest : PW Tryz.prog _ _ [(1, .ptr H.length 0 0), (2, .ptr (H.length + 1) 0 0), (12, .bool true)] (H ++ [⟨28, 0, [.bool c, .bool b, .int .i64 t]⟩, ⟨31, 0, [.int .i64 0, .slice [] 0 true]⟩]) _ by
      by_cases h0 : t < 0
      · have d0 : decide (t < 0) = true := decide_eq_true h0
        (repeat refine PW.seq ?_); refine PW.rg rfl fun K hK => ?_; simp (maxSteps := 3000000) (disch := omega) only [go_sem, ↓reduceIte, reduceCtorEq, pappend, plen, d0]; refine hK _ _ ?_; clear hK K
        exact PW.at [1, 2, 12] hrest rfl rfl
      · have d0 : decide (t < 0) = false := decide_eq_false h0
        have d1 : decide (16777216 ≤ t) = true := decide_eq_true (by omega)
        (repeat refine PW.seq ?_); refine PW.rg rfl fun K hK => ?_; simp (maxSteps := 3000000) (disch := omega) only [go_sem, ↓reduceIte, reduceCtorEq, pappend, plen, d0, d1]; refine hK _ _ ?_; clear hK K
        exact PW.at [1, 2, 12] hrest rfl rfl
    (repeat refine PW.seq ?_); refine PW.cond (t := _) rfl (fun h => ?_) (fun h => ?_)
    rotate_left
    · cases h
    (repeat refine PW.seq ?_); refine PW.rg rfl fun K hK => ?_; simp (maxSteps := 3000000) (disch := omega) only [go_sem, ↓reduceIte, reduceCtorEq, pappend, plen]; refine hK _ _ ?_; clear hK K
    refine PW.ret ⟨.tup [.agg [.int .i64 0, .slice [] 0 true], .int .i64 1], by simp (maxSteps := 3000000) (disch := omega) only [go_sem, ↓reduceIte, reduceCtorEq, pappend, plen, presults, presult, List.mapM_cons, List.mapM_nil, Option.pure_def, Option.bind_eq_bind, Option.bind_some, Array.toList], ?_⟩
    rw [← hr]
    exact Fin.base (Fz.tupC ⟨Fz.aggC ⟨.id (.int _ _), .slice rfl (fun j x y hx => by simp at hx) (fun e => by cases e), trivial⟩, .id (.int _ _), trivial⟩)
  rw [if_pos hc] at hr
  have d0 : decide (t < 0) = false := decide_eq_false (by omega)
  have d1 : decide (16777216 ≤ t) = false := decide_eq_false (by omega)
  (repeat refine PW.seq ?_); refine PW.rg rfl fun K hK => ?_; simp (maxSteps := 3000000) (disch := omega) only [go_sem, ↓reduceIte, reduceCtorEq, pappend, plen, d0, d1]; refine hK _ _ ?_; clear hK K
  (repeat refine PW.seq ?_); refine PW.cond (t := _) rfl (fun h => ?_) (fun h => ?_)
  · cases h
  refine PW.skip ?_
  have et : t = (t.toNat : Int) := by omega
  have bo := fun K => bits_ref t.toNat 24 K (by omega)
  have mo := fun M => zlen M
  have hM : (gbits c b t).length = 26 := by simp [gbits, vbits_len]
  obtain ⟨M, hM'⟩ : ∃ L, L = vbits t.toNat 24 := ⟨_, rfl⟩
  have k1 : M.length = 24 := by rw [hM']; simp [vbits_len]
  have z1 := zlen M
  have t1 : List.take 24 (bs (zb M)) = bs (zb M) := List.take_of_length_le (by omega)
  rw [← hM', ← et] at bo
  rw [k1] at z1
  have fc := fun K => flag_ref c K
  have fb := fun K => flag_ref b K
  have uc := bool_u8 c
  have ub := bool_u8 b
  have bf := fun K => (bo K).base (v := .slice (bs (zb M)) 24 false) (Fz.mslC (e := 5) (xs := bs (zb M)) (Nat.le_refl _) (by simp) (by omega) (FzC.refl (bs_scoped _ _)))
  (repeat refine PW.seq ?_)
  refine PW.view (Vs.place 5) ?_
  refine PW.eq rfl (show _ = H ++ [⟨28, 0, [.bool c, .bool b, .int .i64 t]⟩, ⟨31, 0, [.int .i64 0, .slice [] 0 true]⟩, ⟨5, 0, []⟩] from List.append_assoc _ _ _) ?_
  (repeat refine PW.seq ?_); refine PW.drawi [H.length + 2] [(25, [0]), (4, [0])] [(25, 0)] [16, 19, 24] mix (by kernel_rfl) (by simp <;> omega) fun K hK => ?_
  simp (maxSteps := 3000000) (disch := omega) only [go_sem, ↓reduceIte, reduceCtorEq, pappend, plen]
  refine VCj.read (fun _ _ => fc _) rfl ?_; simp (maxSteps := 3000000) (disch := omega) only [go_sem, ↓reduceIte, reduceCtorEq, pappend, plen]
  refine VCj.read (fun _ _ => fb _) rfl ?_; simp (maxSteps := 3000000) (disch := omega) only [go_sem, ↓reduceIte, reduceCtorEq, pappend, plen]
  refine VCj.read (fun _ _ => bf _) rfl ?_; simp (maxSteps := 3000000) (disch := omega) only [go_sem, ↓reduceIte, reduceCtorEq, pappend, plen, z1]
  refine hK _ _ ?_; clear hK K
  have hcb : PV.int .u8 (c.toNat : Int) :: PV.int .u8 (b.toNat : Int) :: bs (zb M) = bs (zb (gbits c b t)) := by
    rw [gbits, bs_zb_app, ← hM']
    cases c <;> cases b <;> rfl
  rw [hcb]
  have zg := zlen (gbits c b t)
  generalize gbits c b t = L at *
  have hp : CallOk Tryz.prog 44 [.msl (H.length + 2) 1 0 (2 + 24) 1 true] (H ++ [⟨28, 0, [.bool c, .bool b, .int .i64 t]⟩, ⟨31, 0, [.int .i64 0, .slice [] 0 true]⟩, ⟨5, 1, bs (zb L)⟩])
      (.slice (bs (pk (L ++ [true]))) (pk (L ++ [true])).length false) (H ++ [⟨28, 0, [.bool c, .bool b, .int .i64 t]⟩, ⟨31, 0, [.int .i64 0, .slice [] 0 true]⟩, ⟨5, 2, []⟩]) := by
    refine CallOk.frz1 (args' := [.slice (bs (zb L)) L.length false]) (id := H.length + 2) (k := ⟨5, 1, bs (zb L)⟩) (hp2 _ _ _ _ _) ?_ ⟨.inr ⟨2 + 24, 1, true, rfl, by show (bs (zb L)).length = _; omega, by rw [hM]⟩, trivial⟩
    rw [hs2]
    exact payload_ref L false _ (by omega)
  (repeat refine PW.seq ?_); refine PW.rg rfl fun K hK => ?_; simp (maxSteps := 3000000) (disch := omega) only [go_sem, ↓reduceIte, reduceCtorEq, pappend, plen]; refine VCx.call (hp) rfl ?_; simp (maxSteps := 3000000) (disch := omega) only [go_sem, ↓reduceIte, reduceCtorEq, pappend, plen]; refine hK _ _ ?_; clear hK K
  generalize hP : pk (L ++ [true]) = P at *
  refine PW.ret ⟨.tup [.agg [.int .i64 184, .slice (bs P) P.length false], .int .i64 0], by simp (maxSteps := 3000000) (disch := omega) only [go_sem, ↓reduceIte, reduceCtorEq, pappend, plen, presults, presult, List.mapM_cons, List.mapM_nil, Option.pure_def, Option.bind_eq_bind, Option.bind_some, Array.toList], ?_⟩
  rw [← hr]
  exact Fin.base (.id (uve_scoped _ _ _ _))

end Go.Proofs.YtnnkohejhnjflaaGreatDoor.Sc

namespace Go.Proofs.YtnnkohejhnjflaaGreatDoor.Sc
set_option linter.all false
set_option linter.unusedVariables false
set_option linter.unusedSimpArgs false
open Pm Ty Go.RowKit

/-! ### the program's -/
def tkB (i : Nat) (e : Nat) : Blk := ⟨92, 0, [.ptr i 0 0, .int .i64 (e : Int)]⟩
theorem num_ok (c i : Nat) (q : List UInt8) (n a e k : Nat) (H : Heap) (hC : H[c]? = some (tkB i e)) (hA : H[i]? = some (rA q n a)) (hne : c ≠ i) (ha : a ≤ n) (hn : n ≤ 8 * q.length) (hq : q.length ≤ 100000000) (hk : k ≤ 32) (he : e ≤ 4) :
    CallOk Tryz.prog 46 [.ptr c 0 0, .int .i64 (k : Int)] H (.int .i64 ((nm true q n (a, e) k).1 : Int)) (two H c i (tkB i (nm true q n (a, e) k).2.2) (rA q n (nm true q n (a, e) k).2.1)) := by
  have hc := (List.getElem?_eq_some_iff.1 hC).1
  have hself := two_self hC hA
  refine CallOk.body (F0 := [(0, .ptr c 0 0), (1, .int .i64 (k : Int))]) Tryz.func46 rfl Tryz.ntmps46 Tryz.results46 rfl (by kernel_rfl) rfl ?_
  (repeat refine PW.seq ?_); refine PW.rg rfl fun K hK => ?_; simp (maxSteps := 3000000) (disch := omega) only [go_sem, ↓reduceIte, reduceCtorEq, pappend, plen]; refine hK _ _ ?_; clear hK K
  by_cases h0 : e = 0
  · subst h0
    (repeat refine PW.seq ?_); refine PW.rg rfl fun K hK => ?_; simp (maxSteps := 3000000) (disch := omega) only [go_sem, ↓reduceIte, reduceCtorEq, pappend, plen, hC, tkB]; refine hK _ _ ?_; clear hK K
    (repeat refine PW.seq ?_); refine PW.cond (t := _) rfl (fun h => ?_) (fun h => ?_)
    · cases h
    refine PW.skip ?_
    by_cases h1 : a + k ≤ n
    · have e1 : nm true q n (a, 0) k = (vl q a k, a + k, 0) := by
        unfold nm
        rw [if_neg (by simp), if_pos h1]
      rw [e1]
      have rt := rtake_ok i q n a k H hA h1 hn hq hk
      have g1 : (H.set i (rA q n (a + k)))[c]? = some (tkB i 0) := by rw [List.getElem?_set_ne (Ne.symm hne)]; exact hC
      have vb := vl_lt q a k
      have vb2 : vl q a k < 4294967296 := Nat.lt_of_lt_of_le vb (Nat.pow_le_pow_right (by omega) hk)
      (repeat refine PW.seq ?_); refine PW.rg rfl fun K hK => ?_; simp (maxSteps := 3000000) (disch := omega) only [go_sem, ↓reduceIte, reduceCtorEq, pappend, plen, hC, tkB]; refine VCx.call (rt) rfl ?_; simp (maxSteps := 3000000) (disch := omega) only [go_sem, ↓reduceIte, reduceCtorEq, pappend, plen]; refine hK _ _ ?_; clear hK K
      (repeat refine PW.seq ?_); refine PW.rg rfl fun K hK => ?_; simp (maxSteps := 3000000) (disch := omega) only [go_sem, ↓reduceIte, reduceCtorEq, pappend, plen, g1, tkB]; refine hK _ _ ?_; clear hK K
      (repeat refine PW.seq ?_); refine PW.rg rfl fun K hK => ?_; simp (maxSteps := 3000000) (disch := omega) only [go_sem, ↓reduceIte, reduceCtorEq, pappend, plen]; refine hK _ _ ?_; clear hK K
      refine PW.ret ⟨_, rfl, .inl ⟨rfl, ?_⟩⟩
      unfold two
      rw [List.set_comm _ _ (Ne.symm hne)]
      rfl
    · have e1 : nm true q n (a, 0) k = (0, a, 4) := by
        unfold nm
        rw [if_neg (by simp), if_neg h1]; rfl
      rw [e1]
      have rt := rtake_short i q n a k H hA ha (by omega) hk (by omega)
      (repeat refine PW.seq ?_); refine PW.rg rfl fun K hK => ?_; simp (maxSteps := 3000000) (disch := omega) only [go_sem, ↓reduceIte, reduceCtorEq, pappend, plen, hC, tkB]; refine VCx.call (rt) rfl ?_; simp (maxSteps := 3000000) (disch := omega) only [go_sem, ↓reduceIte, reduceCtorEq, pappend, plen]; refine hK _ _ ?_; clear hK K
      (repeat refine PW.seq ?_); refine PW.rg rfl fun K hK => ?_; simp (maxSteps := 3000000) (disch := omega) only [go_sem, ↓reduceIte, reduceCtorEq, pappend, plen, hC, tkB]; refine hK _ _ ?_; clear hK K
      (repeat refine PW.seq ?_); refine PW.rg rfl fun K hK => ?_; simp (maxSteps := 3000000) (disch := omega) only [go_sem, ↓reduceIte, reduceCtorEq, pappend, plen]; refine hK _ _ ?_; clear hK K
      refine PW.ret ⟨_, rfl, .inl ⟨rfl, ?_⟩⟩
      unfold two
      rw [List.set_comm _ _ hne, set_self hA]
      rfl
  · have e1 : nm true q n (a, e) k = (0, a, e) := by
      unfold nm
      rw [if_pos (by simpa using h0)]
    rw [e1]
    have b1 : ((e : Int) != 0) = true := by simp; omega
    (repeat refine PW.seq ?_); refine PW.rg rfl fun K hK => ?_; simp (maxSteps := 3000000) (disch := omega) only [go_sem, ↓reduceIte, reduceCtorEq, pappend, plen, hC, tkB, b1]; refine hK _ _ ?_; clear hK K
    (repeat refine PW.seq ?_); refine PW.cond (t := _) rfl (fun h => ?_) (fun h => ?_)
    rotate_left
    · cases h
    (repeat refine PW.seq ?_); refine PW.rg rfl fun K hK => ?_; simp (maxSteps := 3000000) (disch := omega) only [go_sem, ↓reduceIte, reduceCtorEq, pappend, plen]; refine hK _ _ ?_; clear hK K
    refine PW.ret ⟨_, rfl, .inl ⟨rfl, ?_⟩⟩
    exact hself.symm
theorem nm_e {q : List UInt8} {n a e k : Nat} (he : e ≤ 4) : (nm true q n (a, e) k).2.2 ≤ 4 := by
  unfold nm
  split
  · exact he
  · split
    · exact Nat.zero_le _
    · exact Nat.le_refl _
theorem flg_ok (c i : Nat) (q : List UInt8) (n a e : Nat) (H : Heap) (hC : H[c]? = some (tkB i e)) (hA : H[i]? = some (rA q n a)) (hne : c ≠ i) (ha : a ≤ n) (hn : n ≤ 8 * q.length) (hq : q.length ≤ 100000000) (he : e ≤ 4) :
    CallOk Tryz.prog 47 [.ptr c 0 0] H (.bool (decide ((nm true q n (a, e) 1).1 = 1))) (two H c i (tkB i (nm true q n (a, e) 1).2.2) (rA q n (nm true q n (a, e) 1).2.1)) := by
  have nk := num_ok c i q n a e 1 H hC hA hne ha hn hq (by omega) he
  have b1 : (((nm true q n (a, e) 1).1 : Int) == 1) = decide ((nm true q n (a, e) 1).1 = 1) := by
    rw [Bool.eq_iff_iff]; simp; omega
  refine CallOk.body (F0 := [(0, .ptr c 0 0)]) Tryz.func47 rfl Tryz.ntmps47 Tryz.results47 rfl (by kernel_rfl) rfl ?_
  (repeat refine PW.seq ?_); refine PW.rg rfl fun K hK => ?_; simp (maxSteps := 3000000) (disch := omega) only [go_sem, ↓reduceIte, reduceCtorEq, pappend, plen]; refine hK _ _ ?_; clear hK K
  (repeat refine PW.seq ?_); refine PW.rg rfl fun K hK => ?_; simp (maxSteps := 3000000) (disch := omega) only [go_sem, ↓reduceIte, reduceCtorEq, pappend, plen]; refine VCx.call (nk) rfl ?_; simp (maxSteps := 3000000) (disch := omega) only [go_sem, ↓reduceIte, reduceCtorEq, pappend, plen, b1]; refine hK _ _ ?_; clear hK K
  exact PW.ret ⟨_, rfl, Fin.now⟩
theorem bs_setU (m : List UInt8) (i : Nat) (v : Nat) : (bs m).set i (.int .u8 (IntKind.u8.wrap (v : Int))) = bs (m.set i (UInt8.ofNat v)) := by
  have : IntKind.u8.wrap (v : Int) = ((UInt8.ofNat v).toNat : Int) := by
    simp [IntKind.wrap, IntKind.signed, IntKind.bits]
  rw [this, bs_set]
theorem rdE_len (st : Bool) (q : List UInt8) (n : Nat) (x : Nat × Nat) : ∀ p, (rdE st q n x p).1.length = 64
  | 0 => by simp only [rdE, List.length_replicate]
  | p + 1 => by rw [rdE, List.length_set]; exact rdE_len st q n x p
theorem rdE_a {st : Bool} {q : List UInt8} {n : Nat} {x : Nat × Nat} (h : x.1 ≤ n) : ∀ p, (rdE st q n x p).2.1 ≤ n := fun p => (rdE_b h p).2
theorem rdE_e {q : List UInt8} {n : Nat} {x : Nat × Nat} (h : x.2 ≤ 4) : ∀ p, (rdE true q n x p).2.2 ≤ 4
  | 0 => h
  | p + 1 => nm_e (rdE_e h p)
/-- A heap with a reader's place and error. -/
def tH (H : Heap) (c i : Nat) (q : List UInt8) (n : Nat) (x : Nat × Nat) : Heap := two H c i (tkB i x.2) (rA q n x.1)
theorem tH_len (H : Heap) (c i : Nat) (q : List UInt8) (n : Nat) (x : Nat × Nat) : (tH H c i q n x).length = H.length := two_len _ _ _ _ _
theorem tH_app {H K : Heap} {c i : Nat} {q : List UInt8} {n : Nat} {x : Nat × Nat} (hc : c < H.length) (hi : i < H.length) : tH (H ++ K) c i q n x = tH H c i q n x ++ K := two_app hc hi
theorem tH_n (H K : Heap) (c i : Nat) (q : List UInt8) (n : Nat) (x : Nat × Nat) (k : Nat) : (tH H c i q n x ++ K)[H.length + k]? = K[k]? := by
  rw [List.getElem?_append_right (by rw [tH_len]; omega), tH_len, show H.length + k - H.length = k by omega]
theorem tH_z (H K : Heap) (c i : Nat) (q : List UInt8) (n : Nat) (x : Nat × Nat) : (tH H c i q n x ++ K)[H.length]? = K[0]? := tH_n H K c i q n x 0
theorem tH_s (H K : Heap) (c i : Nat) (q : List UInt8) (n : Nat) (x : Nat × Nat) (k : Nat) (X : Blk) : (tH H c i q n x ++ K).set (H.length + k) X = tH H c i q n x ++ K.set k X := by
  rw [List.set_append_right _ _ (by rw [tH_len]; omega), tH_len, show H.length + k - H.length = k by omega]
theorem tH_sz (H K : Heap) (c i : Nat) (q : List UInt8) (n : Nat) (x : Nat × Nat) (X : Blk) : (tH H c i q n x ++ K).set H.length X = tH H c i q n x ++ K.set 0 X := tH_s H K c i q n x 0 X
structure Tk (H : Heap) (c i : Nat) (q : List UInt8) (n : Nat) : Prop where
  hc : c < H.length
  hi : i < H.length
  ne : c ≠ i
  hn : n ≤ 8 * q.length
  hq : q.length ≤ 100000000
structure Rk (n : Nat) (x : Nat × Nat) : Prop where
  a : x.1 ≤ n
  e : x.2 ≤ 4
theorem Rk.nm {q : List UInt8} {n : Nat} {x : Nat × Nat} (h : Rk n x) (k : Nat) : Rk n (nm true q n x k).2 := ⟨nm_le h.a, nm_e h.e⟩
theorem Rk.rdE {q : List UInt8} {n : Nat} {x : Nat × Nat} (h : Rk n x) : ∀ p, Rk n (rdE true q n x p).2
  | 0 => h
  | p + 1 => (Rk.rdE h p).nm 8
theorem Rk.rdM {q : List UInt8} {n : Nat} {x : Nat × Nat} {u : List UInt8} (h : Rk n x) : Rk n (rdM true q n u x).2 := by
  unfold Sc.rdM
  split
  · exact (h.nm 1).rdE 64
  · exact h.nm 1
theorem num_at {H : Heap} {c i : Nat} {q : List UInt8} {n : Nat} (t : Tk H c i q n) (K : Heap) (x : Nat × Nat) (k : Nat) (r : Rk n x) (hk : k ≤ 32) :
    CallOk Tryz.prog 46 [.ptr c 0 0, .int .i64 (k : Int)] (tH H c i q n x ++ K) (.int .i64 ((nm true q n x k).1 : Int)) (tH H c i q n (nm true q n x k).2 ++ K) := by
  have h1 : (tH H c i q n x ++ K)[c]? = some (tkB i x.2) := by
    rw [List.getElem?_append_left (by rw [tH_len]; exact t.hc)]; exact two_0 _ _ _ _ _ ⟨t.hc, t.ne⟩
  have h2 : (tH H c i q n x ++ K)[i]? = some (rA q n x.1) := by
    rw [List.getElem?_append_left (by rw [tH_len]; exact t.hi)]; exact two_1 _ _ _ _ _ t.hi
  have := num_ok c i q n x.1 x.2 k _ h1 h2 t.ne r.a t.hn t.hq hk r.e
  rw [two_app (by rw [tH_len]; exact t.hc) (by rw [tH_len]; exact t.hi), tH, two_two' _ _ _ _ _ _ _ t.ne] at this
  exact this
theorem flg_at {H : Heap} {c i : Nat} {q : List UInt8} {n : Nat} (t : Tk H c i q n) (K : Heap) (x : Nat × Nat) (r : Rk n x) :
    CallOk Tryz.prog 47 [.ptr c 0 0] (tH H c i q n x ++ K) (.bool (decide ((nm true q n x 1).1 = 1))) (tH H c i q n (nm true q n x 1).2 ++ K) := by
  have h1 : (tH H c i q n x ++ K)[c]? = some (tkB i x.2) := by
    rw [List.getElem?_append_left (by rw [tH_len]; exact t.hc)]; exact two_0 _ _ _ _ _ ⟨t.hc, t.ne⟩
  have h2 : (tH H c i q n x ++ K)[i]? = some (rA q n x.1) := by
    rw [List.getElem?_append_left (by rw [tH_len]; exact t.hi)]; exact two_1 _ _ _ _ _ t.hi
  have := flg_ok c i q n x.1 x.2 _ h1 h2 t.ne r.a t.hn t.hq r.e
  rw [two_app (by rw [tH_len]; exact t.hc) (by rw [tH_len]; exact t.hi), tH, two_two' _ _ _ _ _ _ _ t.ne] at this
  exact this
def z64 : List UInt8 := List.replicate 64 0
theorem z64_len : z64.length = 64 := List.length_replicate
theorem z64_eq : zcells Tryz.prog 24 = some (bs z64) := by kernel_rfl
theorem tkB_sc {i e n : Nat} (h : i < n) : ∀ x ∈ (tkB i e).cells, Scoped n x := fun x hx => by
  simp only [tkB, List.mem_cons, List.not_mem_nil, or_false] at hx
  rcases hx with rfl | rfl
  · exact .ptr h
  · exact .int _ _
theorem rA_sc {p : List UInt8} {k a n : Nat} : ∀ x ∈ (rA p k a).cells, Scoped n x := fun x hx => by
  simp only [rA, List.mem_cons, List.not_mem_nil, or_false] at hx
  rcases hx with rfl | rfl | rfl
  · exact sl_scoped (bs_scoped _ _)
  · exact .int _ _
  · exact .int _ _
theorem bs64 (l : List UInt8) (h : l.length = 64) : (bs l).all PV.cell = true ∧ (bs l).length = 64 ∧ List.take 64 (bs l) = bs l ∧ List.drop 64 (bs l) = [] := by
  have hl : (bs l).length = 64 := by rw [length_bs]; exact h
  exact ⟨by simp [bs, PV.cell], hl, List.take_of_length_le (by omega), List.drop_of_length_le (by omega)⟩

set_option maxHeartbeats 4000000 in
theorem tmat_ok {H : Heap} {c i : Nat} {q : List UInt8} {n : Nat} (t : Tk H c i q n) (K : Heap) (x : Nat × Nat) (r : Rk n x) (u : List UInt8) (hu : u.length = 64) :
    CallOk Tryz.prog 48 [.ptr c 0 0, .agg (bs u)] (tH H c i q n x ++ K) (.agg (bs (rdM true q n u x).1)) (tH H c i q n (rdM true q n u x).2 ++ K) := by
  obtain ⟨au, lu, tu, du⟩ := bs64 u hu
  obtain ⟨az, lz, tz, dz⟩ := bs64 z64 z64_len
  obtain ⟨B, hB⟩ : ∃ B, B = tH H c i q n x ++ K := ⟨_, rfl⟩
  have hBl : B.length = H.length + K.length := by rw [hB, List.length_append, tH_len]
  have tB : Tk B c i q n := ⟨by have := t.hc; omega, by have := t.hi; omega, t.ne, t.hn, t.hq⟩
  have hB2 : ∀ y, tH B c i q n y = tH H c i q n y ++ K := fun y => by
    rw [hB, tH_app (by rw [tH_len]; exact t.hc) (by rw [tH_len]; exact t.hi)]
    congr 1
    exact two_two' _ _ _ _ _ _ _ t.ne
  have hB1 : B = tH B c i q n x := by rw [hB2, hB]
  rw [← hB, ← hB2]
  clear hB2 hB hBl
  have fin : ∀ (v : List UInt8) y K, Fin B (.agg (bs v)) (tH B c i q n y) (.agg (bs v)) (tH B c i q n y ++ K) := fun v y K =>
    Fin.cut rfl (by rw [tH_len]) (two_sc (tkB_sc tB.hi) rA_sc) (.id (ag_scoped (bs_scoped _ _)))
  unfold rdM
  have fo := fun K => flg_at tB K x r
  have hx := r.nm (q := q) 1
  refine CallOk.body (F0 := [(0, .ptr c 0 0), (1, .agg (bs u))]) Tryz.func48 rfl Tryz.ntmps48 Tryz.results48 rfl (by kernel_rfl) rfl ?_
  refine PW.eq rfl hB1 ?_
  (repeat refine PW.seq ?_); refine PW.rg rfl fun K hK => ?_; simp (maxSteps := 3000000) (disch := omega) only [go_sem, ↓reduceIte, reduceCtorEq, pappend, plen, au, ↓z64_eq]; refine hK _ _ ?_; clear hK K
  (repeat refine PW.seq ?_); refine PW.rg rfl fun K hK => ?_; simp (maxSteps := 3000000) (disch := omega) only [go_sem, ↓reduceIte, reduceCtorEq, pappend, plen]; refine VCx.call (fo _) rfl ?_; simp (maxSteps := 3000000) (disch := omega) only [go_sem, ↓reduceIte, reduceCtorEq, pappend, plen, tH_len]; refine hK _ _ ?_; clear hK K
  generalize (nm true q n x 1).1 = v at *
  generalize (nm true q n x 1).2 = y at *
  by_cases hv : v = 1
  rotate_left
  · rw [if_neg hv]
    have dv : decide (v = 1) = false := decide_eq_false hv
    (repeat refine PW.seq ?_); refine PW.cond (t := _) rfl (fun h => ?_) (fun h => ?_)
    rotate_left
    · simp [hv] at h
    (repeat refine PW.seq ?_); refine PW.rg rfl fun K hK => ?_; simp (maxSteps := 3000000) (disch := omega) only [go_sem, ↓reduceIte, reduceCtorEq, pappend, plen, tH_z, tH_n, tH_s, lu, tu, lz, dz]; refine hK _ _ ?_; clear hK K
    refine PW.ret ⟨.agg (bs u), by simp (maxSteps := 3000000) (disch := omega) only [go_sem, ↓reduceIte, reduceCtorEq, pappend, plen, presults, presult, List.mapM_cons, List.mapM_nil, Option.pure_def, Option.bind_eq_bind, Option.bind_some, Array.toList, tH_z, tH_n, lu, tu], ?_⟩
    exact fin u y _
  rw [if_pos hv]
  (repeat refine PW.seq ?_); refine PW.cond (t := _) rfl (fun h => ?_) (fun h => ?_)
  · simp [hv] at h
  refine PW.skip ?_
  (repeat refine PW.seq ?_); refine PW.rg rfl fun K hK => ?_; simp (maxSteps := 3000000) (disch := omega) only [go_sem, ↓reduceIte, reduceCtorEq, pappend, plen, tH_len, ↓z64_eq]; refine hK _ _ ?_; clear hK K
  (repeat refine PW.seq ?_); refine PW.rg rfl fun K hK => ?_; simp (maxSteps := 3000000) (disch := omega) only [go_sem, ↓reduceIte, reduceCtorEq, pappend, plen]; refine VCx.call (scan_ok _) rfl ?_; simp (maxSteps := 3000000) (disch := omega) only [go_sem, ↓reduceIte, reduceCtorEq, pappend, plen]; refine hK _ _ ?_; clear hK K
  (repeat refine PW.seq ?_); refine PW.block (PW.loop ?_)
  suffices hloop : ∀ p : Nat, p ≤ 64 → PL Tryz.prog _ _ [(0, .ptr c 0 0), (4, .ptr (B.length + 1) 0 0), (5, .ptr (B.length + 2) 0 0), (12, .agg scV), (13, .int .i64 (p : Int))] (tH B c i q n (rdE true q n y p).2 ++ [⟨24, 0, bs u⟩, ⟨24, 0, bs z64⟩, ⟨24, 0, bs (rdE true q n y p).1⟩]) _ by
    exact PL.at [0, 4, 5, 12, 13] (hloop 0 (by omega)) rfl rfl
  have sl : scV.length = 64 := rfl
  intro p hp
  induction hd : 64 - p using Nat.strongRecOn generalizing p with
  | _ d ih =>
    refine PL.round ?_; (repeat refine PW.seq ?_); refine PW.rg rfl fun K hK => ?_; simp (maxSteps := 3000000) (disch := omega) only [go_sem, ↓reduceIte, reduceCtorEq, pappend, plen]; refine hK _ _ ?_; clear hK K
    (repeat refine PW.seq ?_); refine PW.cond (t := _) rfl (fun h => ?_) (fun h => ?_)
    · have h4 : p < 64 := by have := of_decide_eq_true h; omega
      have s1 := scV_at p h4
      have b2 := sk_lt p h4
      have lE : (bs (rdE true q n y p).1).length = 64 := by rw [length_bs]; exact rdE_len _ _ _ _ p
      have rE := hx.rdE (q := q) p
      have no := fun K => num_at tB K (rdE true q n y p).2 8 rE (by omega)
      have hnext := ih (64 - (p + 1)) (by omega) (p + 1) (by omega) rfl
      rw [rdE] at hnext
      have bv : (nm true q n (rdE true q n y p).2 8).1 < 2 ^ 8 := nm_lt _ _ _ _ _
      generalize (rdE true q n y p).1 = E at *
      generalize (rdE true q n y p).2 = z at *
      generalize (nm true q n z 8).1 = V at *
      generalize (nm true q n z 8).2 = z2 at *
      have wv : IntKind.u8.wrap (V : Int) = (V : Int) := by rw [w8 _ (by omega)]
      have sv := bs_setU E (sk p) V
      rw [wv] at sv
      generalize sk p = k at *
      refine PW.skip ?_; (repeat refine PW.seq ?_); refine PW.block ?_
      (repeat refine PW.seq ?_); refine PW.rg rfl fun K hK => ?_; simp (maxSteps := 3000000) (disch := omega) only [go_sem, ↓reduceIte, reduceCtorEq, pappend, plen, s1, sl]; refine hK _ _ ?_; clear hK K
      (repeat refine PW.seq ?_); refine PW.rg rfl fun K hK => ?_; simp (maxSteps := 3000000) (disch := omega) only [go_sem, ↓reduceIte, reduceCtorEq, pappend, plen]; refine VCx.call (no _) rfl ?_; simp (maxSteps := 3000000) (disch := omega) only [go_sem, ↓reduceIte, reduceCtorEq, pappend, plen, tH_n, tH_s, lE, sv]; refine hK _ _ ?_; clear hK K
      (repeat refine PW.seq ?_); refine PW.rg rfl fun K hK => ?_; simp (maxSteps := 3000000) (disch := omega) only [go_sem, ↓reduceIte, reduceCtorEq, pappend, plen]; refine hK _ _ ?_; clear hK K
      exact PL.at [0, 4, 5, 12, 13] hnext rfl rfl
    · have h4 : p = 64 := by have := of_decide_eq_false h; omega
      subst h4
      have lE : (rdE true q n y 64).1.length = 64 := rdE_len _ _ _ _ 64
      obtain ⟨E, hE⟩ : ∃ E, E = (rdE true q n y 64).1 := ⟨_, rfl⟩
      obtain ⟨z, hz⟩ : ∃ E, E = (rdE true q n y 64).2 := ⟨_, rfl⟩
      rw [← hE] at lE ⊢
      rw [← hz]
      obtain ⟨aE, lE, tE, dE⟩ := bs64 E lE
      refine PW.exit ?_
      (repeat refine PW.seq ?_); refine PW.rg rfl fun K hK => ?_; simp (maxSteps := 3000000) (disch := omega) only [go_sem, ↓reduceIte, reduceCtorEq, pappend, plen, tH_z, tH_n, tH_s, lE, tE, lz, dz]; refine hK _ _ ?_; clear hK K
      refine PW.ret ⟨.agg (bs E), by simp (maxSteps := 3000000) (disch := omega) only [go_sem, ↓reduceIte, reduceCtorEq, pappend, plen, presults, presult, List.mapM_cons, List.mapM_nil, Option.pure_def, Option.bind_eq_bind, Option.bind_some, Array.toList, tH_z, tH_n, lE, tE], ?_⟩
      exact fin E z _

end Go.Proofs.YtnnkohejhnjflaaGreatDoor.Sc

namespace Go.Proofs.YtnnkohejhnjflaaGreatDoor.Sc
set_option linter.all false
set_option linter.unusedVariables false
set_option linter.unusedSimpArgs false
open Pm Ty Go.RowKit

/-- A heap with the reference's reader's place. -/
def wH (H : Heap) (i j v n : Nat) (x : Nat × Nat) : Heap := H.set i (rR j v n x.1)
theorem wH_len (H : Heap) (i j v n : Nat) (x : Nat × Nat) : (wH H i j v n x).length = H.length := by simp [wH]
theorem wH_app {H K : Heap} {i j v n : Nat} {x : Nat × Nat} (hi : i < H.length) : wH (H ++ K) i j v n x = wH H i j v n x ++ K := by unfold wH; rw [List.set_append_left _ _ hi]
theorem wH_n (H K : Heap) (i j v n : Nat) (x : Nat × Nat) (k : Nat) : (wH H i j v n x ++ K)[H.length + k]? = K[k]? := by
  rw [List.getElem?_append_right (by rw [wH_len]; omega), wH_len, show H.length + k - H.length = k by omega]
theorem wH_z (H K : Heap) (i j v n : Nat) (x : Nat × Nat) : (wH H i j v n x ++ K)[H.length]? = K[0]? := wH_n H K i j v n x 0
theorem wH_s (H K : Heap) (i j v n : Nat) (x : Nat × Nat) (k : Nat) (X : Blk) : (wH H i j v n x ++ K).set (H.length + k) X = wH H i j v n x ++ K.set k X := by
  rw [List.set_append_right _ _ (by rw [wH_len]; omega), wH_len, show H.length + k - H.length = k by omega]
theorem wH_sz (H K : Heap) (i j v n : Nat) (x : Nat × Nat) (X : Blk) : (wH H i j v n x ++ K).set H.length X = wH H i j v n x ++ K.set 0 X := wH_s H K i j v n x 0 X
theorem wH_wH (H : Heap) (i j v n : Nat) (x y : Nat × Nat) : wH (wH H i j v n x) i j v n y = wH H i j v n y := by unfold wH; rw [List.set_set]
structure Wk (H : Heap) (i j v : Nat) (q : List UInt8) (n : Nat) : Prop where
  hi : i < H.length
  hB : H[j]? = some (rB q v)
  ne : i ≠ j
  hn : n ≤ 8 * q.length
  hq : q.length ≤ 100000000
structure Rf (n : Nat) (x : Nat × Nat) : Prop where
  a : x.1 ≤ n
  e : x.2 = 0
theorem nm_e0 {q : List UInt8} {n k : Nat} {x : Nat × Nat} (he : x.2 = 0) : (nm false q n x k).2.2 = 0 := by
  unfold nm
  rw [if_neg (by simp [he])]
  split <;> rfl
theorem Rf.nm {q : List UInt8} {n : Nat} {x : Nat × Nat} (h : Rf n x) (k : Nat) : Rf n (nm false q n x k).2 := ⟨nm_le h.a, nm_e0 h.e⟩
theorem Rf.rdE {q : List UInt8} {n : Nat} {x : Nat × Nat} (h : Rf n x) : ∀ p, Rf n (rdE false q n x p).2
  | 0 => h
  | p + 1 => (Rf.rdE h p).nm 8
theorem Rf.rdM {q : List UInt8} {n : Nat} {x : Nat × Nat} {u : List UInt8} (h : Rf n x) : Rf n (rdM false q n u x).2 := by
  unfold Sc.rdM
  split
  · exact (h.nm 1).rdE 64
  · exact h.nm 1
theorem Wk.at {H : Heap} {i j v : Nat} {q : List UInt8} {n : Nat} (t : Wk H i j v q n) (x : Nat × Nat) (K : Heap) : (wH H i j v n x ++ K)[i]? = some (rR j v n x.1) ∧ (wH H i j v n x ++ K)[j]? = some (rB q v) := by
  have hj := (List.getElem?_eq_some_iff.1 t.hB).1
  have hi := t.hi
  constructor
  · rw [List.getElem?_append_left (by rw [wH_len]; exact hi)]
    simp [wH, hi]
  · rw [List.getElem?_append_left (by rw [wH_len]; exact hj), wH, List.getElem?_set_ne t.ne]
    exact t.hB
theorem rnum_L {i j v : Nat} {q : List UInt8} {n : Nat} {L : Heap} {x : Nat × Nat} (h1 : L[i]? = some (rR j v n x.1)) (h2 : L[j]? = some (rB q v)) (ne : i ≠ j) (hn : n ≤ 8 * q.length) (hq : q.length ≤ 100000000) (k : Nat) (r : Rf n x) (hk : k ≤ 32) :
    CallOk Tryz.prog 52 [.ptr i 0 0, .int .i64 (k : Int)] L (.int .i64 ((nm false q n x k).1 : Int)) (L.set i (rR j v n (nm false q n x k).2.1)) := by
  have ra := r.a
  refine CallOk.body (F0 := [(0, .ptr i 0 0), (1, .int .i64 (k : Int))]) Tryz.func52 rfl Tryz.ntmps52 Tryz.results52 rfl (by kernel_rfl) rfl ?_
  (repeat refine PW.seq ?_); refine PW.rg rfl fun K hK => ?_; simp (maxSteps := 3000000) (disch := omega) only [go_sem, ↓reduceIte, reduceCtorEq, pappend, plen]; refine hK _ _ ?_; clear hK K
  by_cases hs : x.1 + k ≤ n
  · have e1 : nm false q n x k = (vl q x.1 k, x.1 + k, 0) := by
      unfold nm
      rw [if_neg (by simp [r.e]), if_pos hs]
    rw [e1]
    have rt := rtake_ref i j v q n x.1 k _ h1 h2 ne hs hn hq hk
    have vb := vl_lt q x.1 k
    have vb2 : vl q x.1 k < 4294967296 := Nat.lt_of_lt_of_le vb (Nat.pow_le_pow_right (by omega) hk)
    (repeat refine PW.seq ?_); refine PW.rg rfl fun K hK => ?_; simp (maxSteps := 3000000) (disch := omega) only [go_sem, ↓reduceIte, reduceCtorEq, pappend, plen]; refine VCx.call (rt) rfl ?_; simp (maxSteps := 3000000) (disch := omega) only [go_sem, ↓reduceIte, reduceCtorEq, pappend, plen]; refine hK _ _ ?_; clear hK K
    (repeat refine PW.seq ?_); refine PW.rg rfl fun K hK => ?_; simp (maxSteps := 3000000) (disch := omega) only [go_sem, ↓reduceIte, reduceCtorEq, pappend, plen]; refine hK _ _ ?_; clear hK K
    exact PW.ret ⟨_, rfl, .inl ⟨rfl, rfl⟩⟩
  · have e1 : nm false q n x k = (0, x.1, 0) := by
      unfold nm
      rw [if_neg (by simp [r.e]), if_neg hs]; rfl
    rw [e1]
    have rt := rtake_shr i j v q n x.1 k _ h1 h2 ra (by omega) hk (by omega)
    (repeat refine PW.seq ?_); refine PW.rg rfl fun K hK => ?_; simp (maxSteps := 3000000) (disch := omega) only [go_sem, ↓reduceIte, reduceCtorEq, pappend, plen]; refine VCx.call (rt) rfl ?_; simp (maxSteps := 3000000) (disch := omega) only [go_sem, ↓reduceIte, reduceCtorEq, pappend, plen]; refine hK _ _ ?_; clear hK K
    (repeat refine PW.seq ?_); refine PW.rg rfl fun K hK => ?_; simp (maxSteps := 3000000) (disch := omega) only [go_sem, ↓reduceIte, reduceCtorEq, pappend, plen]; refine hK _ _ ?_; clear hK K
    exact PW.ret ⟨_, rfl, .inl ⟨rfl, (set_self h1).symm⟩⟩
theorem rnum_at {H : Heap} {i j v : Nat} {q : List UInt8} {n : Nat} (t : Wk H i j v q n) (K : Heap) (x : Nat × Nat) (k : Nat) (r : Rf n x) (hk : k ≤ 32) :
    CallOk Tryz.prog 52 [.ptr i 0 0, .int .i64 (k : Int)] (wH H i j v n x ++ K) (.int .i64 ((nm false q n x k).1 : Int)) (wH H i j v n (nm false q n x k).2 ++ K) := by
  obtain ⟨h1, h2⟩ := t.at x K
  have := rnum_L h1 h2 t.ne t.hn t.hq k r hk
  rwa [List.set_append_left _ _ (by rw [wH_len]; exact t.hi), wH, List.set_set] at this
theorem rR_sc {j v n a m : Nat} (h : j < m) : ∀ x ∈ (rR j v n a).cells, Scoped m x := fun x hx => by
  simp only [rR, List.mem_cons, List.not_mem_nil, or_false] at hx
  rcases hx with rfl | rfl
  · exact .msl h
  · exact .int _ _

set_option maxHeartbeats 4000000 in
theorem rmat_ref {H : Heap} {i j v : Nat} {q : List UInt8} {n : Nat} (t : Wk H i j v q n) (K : Heap) (x : Nat × Nat) (r : Rf n x) (u : List UInt8) (hu : u.length = 64) :
    CallOk Tryz.prog 53 [.ptr i 0 0, .agg (bs u)] (wH H i j v n x ++ K) (.agg (bs (rdM false q n u x).1)) (wH H i j v n (rdM false q n u x).2 ++ K) := by
  obtain ⟨au, lu, tu, du⟩ := bs64 u hu
  obtain ⟨az, lz, tz, dz⟩ := bs64 z64 z64_len
  have sl : scV.length = 64 := rfl
  have sc' : scV.all PV.cell = true := by decide +kernel
  obtain ⟨B, hB⟩ : ∃ B, B = wH H i j v n x ++ K := ⟨_, rfl⟩
  have hBl : B.length = H.length + K.length := by rw [hB, List.length_append, wH_len]
  have tB : Wk B i j v q n := ⟨by have := t.hi; omega, by rw [hB]; exact (t.at x K).2, t.ne, t.hn, t.hq⟩
  have hB2 : ∀ y, wH B i j v n y = wH H i j v n y ++ K := fun y => by
    rw [hB, wH_app (by rw [wH_len]; exact t.hi), wH_wH]
  have hB1 : B = wH B i j v n x := by rw [hB2, hB]
  have hj := (List.getElem?_eq_some_iff.1 tB.hB).1
  rw [← hB, ← hB2]
  clear hB2 hB hBl
  have fin : ∀ (w : List UInt8) y K, Fin B (.agg (bs w)) (wH B i j v n y) (.agg (bs w)) (wH B i j v n y ++ K) := fun w y K =>
    Fin.cut rfl (by rw [wH_len]) (fun hs => HSc.set hs (rR_sc hj)) (.id (ag_scoped (bs_scoped _ _)))
  unfold rdM
  have fo := fun K => rnum_at tB K x 1 r (by omega)
  have hx := r.nm (q := q) 1
  have vb := nm_lt false q n x 1
  refine CallOk.body (F0 := [(0, .ptr i 0 0), (1, .agg (bs u))]) Tryz.func53 rfl Tryz.ntmps53 Tryz.results53 rfl (by kernel_rfl) rfl ?_
  refine PW.eq rfl hB1 ?_
  (repeat refine PW.seq ?_); refine PW.rg rfl fun K hK => ?_; simp (maxSteps := 3000000) (disch := omega) only [go_sem, ↓reduceIte, reduceCtorEq, pappend, plen, au, ↓z64_eq]; refine hK _ _ ?_; clear hK K
  generalize (nm false q n x 1).1 = w at *
  generalize (nm false q n x 1).2 = y at *
  have hw : ((w : Int) == 0) = decide (¬ w = 1) := by rw [Bool.eq_iff_iff]; simp; omega
  (repeat refine PW.seq ?_); refine PW.rg rfl fun K hK => ?_; simp (maxSteps := 3000000) (disch := omega) only [go_sem, ↓reduceIte, reduceCtorEq, pappend, plen]; refine VCx.call (fo _) rfl ?_; simp (maxSteps := 3000000) (disch := omega) only [go_sem, ↓reduceIte, reduceCtorEq, pappend, plen, wH_len, hw]; refine hK _ _ ?_; clear hK K
  by_cases hv : w = 1
  rotate_left
  · rw [if_neg hv]
    have dv : decide (¬ w = 1) = true := decide_eq_true hv
    (repeat refine PW.seq ?_); refine PW.cond (t := _) rfl (fun h => ?_) (fun h => ?_)
    rotate_left
    · simp [hv] at h
    (repeat refine PW.seq ?_); refine PW.rg rfl fun K hK => ?_; simp (maxSteps := 3000000) (disch := omega) only [go_sem, ↓reduceIte, reduceCtorEq, pappend, plen, wH_z, wH_n, wH_s, lu, tu, lz, dz]; refine hK _ _ ?_; clear hK K
    refine PW.ret ⟨.agg (bs u), by simp (maxSteps := 3000000) (disch := omega) only [go_sem, ↓reduceIte, reduceCtorEq, pappend, plen, presults, presult, List.mapM_cons, List.mapM_nil, Option.pure_def, Option.bind_eq_bind, Option.bind_some, Array.toList, wH_z, wH_n, lu, tu], ?_⟩
    exact fin u y _
  rw [if_pos hv]
  (repeat refine PW.seq ?_); refine PW.cond (t := _) rfl (fun h => ?_) (fun h => ?_)
  · simp [hv] at h
  refine PW.skip ?_
  (repeat refine PW.seq ?_); refine PW.rg rfl fun K hK => ?_; simp (maxSteps := 3000000) (disch := omega) only [go_sem, ↓reduceIte, reduceCtorEq, pappend, plen, wH_len, ↓z64_eq]; refine hK _ _ ?_; clear hK K
  (repeat refine PW.seq ?_); refine PW.rg rfl fun K hK => ?_; simp (maxSteps := 3000000) (disch := omega) only [go_sem, ↓reduceIte, reduceCtorEq, pappend, plen, wH_len, wH_n, wH_s, sc', sl]; refine VCx.call (scan_ref _) rfl ?_; simp (maxSteps := 3000000) (disch := omega) only [go_sem, ↓reduceIte, reduceCtorEq, pappend, plen, wH_len, wH_n, wH_s, sc', sl]; refine hK _ _ ?_; clear hK K
  (repeat refine PW.seq ?_); refine PW.rg rfl fun K hK => ?_; simp (maxSteps := 3000000) (disch := omega) only [go_sem, ↓reduceIte, reduceCtorEq, pappend, plen]; refine hK _ _ ?_; clear hK K
  (repeat refine PW.seq ?_); refine PW.block (PW.loop ?_)
  suffices hloop : ∀ p : Nat, p ≤ 64 → PL Tryz.prog _ _ [(0, .ptr i 0 0), (4, .ptr (B.length + 1) 0 0), (5, .ptr (B.length + 2) 0 0), (6, .ptr (B.length + 3) 0 0), (7, .int .i64 (p : Int))] (wH B i j v n (rdE false q n y p).2 ++ [⟨24, 0, bs u⟩, ⟨24, 0, bs z64⟩, ⟨24, 0, bs (rdE false q n y p).1⟩, ⟨137, 0, scV⟩]) _ by
    exact PL.at [0, 4, 5, 6, 7] (hloop 0 (by omega)) rfl rfl
  intro p hp
  induction hd : 64 - p using Nat.strongRecOn generalizing p with
  | _ d ih =>
    refine PL.round ?_; (repeat refine PW.seq ?_); refine PW.rg rfl fun K hK => ?_; simp (maxSteps := 3000000) (disch := omega) only [go_sem, ↓reduceIte, reduceCtorEq, pappend, plen]; refine hK _ _ ?_; clear hK K
    (repeat refine PW.seq ?_); refine PW.cond (t := _) rfl (fun h => ?_) (fun h => ?_)
    · have h4 : p < 64 := by have := of_decide_eq_true h; omega
      have s1 := scV_at p h4
      have b2 := sk_lt p h4
      have lE : (bs (rdE false q n y p).1).length = 64 := by rw [length_bs]; exact rdE_len _ _ _ _ p
      have rE := hx.rdE (q := q) p
      have no := fun (L : Heap) h1 h2 => rnum_L (i := i) (j := j) (v := v) (L := L) (x := (rdE false q n y p).2) h1 h2 tB.ne tB.hn tB.hq 8 rE (by omega)
      have hat := tB.at (rdE false q n y p).2 [⟨24, 0, bs u⟩, ⟨24, 0, bs z64⟩, ⟨24, 0, bs (rdE false q n y p).1⟩, ⟨137, 0, scV⟩]
      have hnext := ih (64 - (p + 1)) (by omega) (p + 1) (by omega) rfl
      rw [rdE] at hnext
      have bv : (nm false q n (rdE false q n y p).2 8).1 < 2 ^ 8 := nm_lt _ _ _ _ _
      generalize (rdE false q n y p).1 = E at *
      generalize (rdE false q n y p).2 = z at *
      generalize (nm false q n z 8).1 = V at *
      generalize (nm false q n z 8).2 = z2 at *
      have wv : IntKind.u8.wrap (V : Int) = (V : Int) := by rw [w8 _ (by omega)]
      have sv := bs_setU E (sk p) V
      rw [wv] at sv
      have hi := tB.hi
      have hset : ∀ K : Heap, (wH B i j v n z ++ K).set i (rR j v n z2.1) = wH B i j v n z2 ++ K := fun K => by
        rw [List.set_append_left _ _ (by rw [wH_len]; exact hi), wH, List.set_set]; rfl
      generalize sk p = k at *
      refine PW.skip ?_; (repeat refine PW.seq ?_); refine PW.block ?_
      (repeat refine PW.seq ?_); refine PW.drawi [i, B.length + 2] [(0, [0]), (20, [0]), (5, [1]), (23, [1])] [] [] mix (by kernel_rfl) (by simp <;> omega) fun K hK => ?_
      simp (maxSteps := 3000000) (disch := omega) only [go_sem, ↓reduceIte, reduceCtorEq, pappend, plen, wH_n, s1, sl]
      refine VCj.wr1 hat.1 (fun L hL hA => no L hL ((hA.out j ?_).trans hat.2)) (by simp (maxSteps := 3000000) (disch := omega) only [go_sem, ↓reduceIte, reduceCtorEq, pappend, plen]) (.inl rfl) rfl ?_
      · simp only [List.mem_cons, List.not_mem_nil, or_false]; have := tB.ne; omega
      simp (maxSteps := 3000000) (disch := omega) only [go_sem, ↓reduceIte, reduceCtorEq, pappend, plen, hset, wH_n, wH_s, lE, sv]; refine hK _ _ ?_; clear hK K
      (repeat refine PW.seq ?_); refine PW.rg rfl fun K hK => ?_; simp (maxSteps := 3000000) (disch := omega) only [go_sem, ↓reduceIte, reduceCtorEq, pappend, plen]; refine hK _ _ ?_; clear hK K
      exact PL.at [0, 4, 5, 6, 7] hnext rfl rfl
    · have h4 : p = 64 := by have := of_decide_eq_false h; omega
      subst h4
      have lE : (rdE false q n y 64).1.length = 64 := rdE_len _ _ _ _ 64
      obtain ⟨E, hE⟩ : ∃ E, E = (rdE false q n y 64).1 := ⟨_, rfl⟩
      obtain ⟨z, hz⟩ : ∃ E, E = (rdE false q n y 64).2 := ⟨_, rfl⟩
      rw [← hE] at lE ⊢
      rw [← hz]
      obtain ⟨aE, lE, tE, dE⟩ := bs64 E lE
      refine PW.exit ?_
      (repeat refine PW.seq ?_); refine PW.rg rfl fun K hK => ?_; simp (maxSteps := 3000000) (disch := omega) only [go_sem, ↓reduceIte, reduceCtorEq, pappend, plen, wH_z, wH_n, wH_s, lE, tE, lz, dz]; refine hK _ _ ?_; clear hK K
      refine PW.ret ⟨.agg (bs E), by simp (maxSteps := 3000000) (disch := omega) only [go_sem, ↓reduceIte, reduceCtorEq, pappend, plen, presults, presult, List.mapM_cons, List.mapM_nil, Option.pure_def, Option.bind_eq_bind, Option.bind_some, Array.toList, wH_z, wH_n, lE, tE], ?_⟩
      exact fin E z _

end Go.Proofs.YtnnkohejhnjflaaGreatDoor.Sc

namespace Go.Proofs.YtnnkohejhnjflaaGreatDoor.Sc
set_option linter.all false
set_option linter.unusedVariables false
set_option linter.unusedSimpArgs false
open Pm Ty Go.RowKit

def zSq : Sq := ⟨0, 0, 0, 0, false, 0, 0, z64, z64⟩
theorem zcSq : zcells Tryz.prog 26 = some (sqc zSq) := by kernel_rfl
theorem zSq_ok : SqOk zSq := ⟨by decide, by decide, by decide, by decide, by decide, by decide, z64_len, z64_len⟩
/-- What TakeSeq returns. -/
def takeS (st : Bool) (t : Int) (q : List UInt8) : Sq × Int :=
  if t = 179 ∧ q.length ≠ 0 ∧ lastB q ≠ 0 then (if (re' st q (nb q)).2.2 = 0 ∧ vseq (rdS st q (nb q)) = true ∧ pk (sbits (rdS st q (nb q)) ++ [true]) = q then (rdS st q (nb q), 0) else (zSq, 3)) else (zSq, 3)
def takeG (t : Int) (q : List UInt8) : Bool × Bool × Int × Int :=
  if t = 184 ∧ q.length ≠ 0 ∧ lastB q ≠ 0 ∧ nb q = 26 then (decide (vl q 0 1 = 1), decide (vl q 1 1 = 1), (vl q 2 24 : Int), 0) else (false, false, 0, 3)
def rvTS (x : Sq × Int) : PV := .tup [.agg (sqc x.1), .int .i64 x.2]
theorem rvTS_sc (n : Nat) (x : Sq × Int) : Scoped n (rvTS x) := .tup (all_scoped fun y hy => by
  simp only [List.mem_cons, List.not_mem_nil, or_false] at hy
  rcases hy with rfl | rfl
  · exact ag_scoped (sqc_scoped _ _)
  · exact .int _ _)
theorem beq_ok (p q : List UInt8) (f g : Bool) (H : Heap) : CallOk Tryz.prog 49 [.slice (bs p) p.length f, .slice (bs q) q.length g] H (.bool (p == q)) H := by
  refine CallOk.body (F0 := [(0, .slice (bs p) p.length f), (1, .slice (bs q) q.length g)]) Tryz.func49 rfl Tryz.ntmps49 Tryz.results49 rfl (by kernel_rfl) rfl ?_
  (repeat refine PW.seq ?_); refine PW.rg rfl fun K hK => ?_; simp (maxSteps := 3000000) (disch := omega) only [go_sem, ↓reduceIte, reduceCtorEq, pappend, plen]; refine hK _ _ ?_; clear hK K
  (repeat refine PW.seq ?_); refine PW.rg rfl fun K hK => ?_; simp (maxSteps := 3000000) (disch := omega) only [go_sem, ↓reduceIte, reduceCtorEq, pappend, plen, length_bs, pbytes_bs]; refine hK _ _ ?_; clear hK K
  exact PW.ret ⟨_, rfl, .inl ⟨rfl, rfl⟩⟩
theorem sqz_len (w h a b : Int) (il : Bool) (br bf : Int) (x y : List UInt8) (hx : x.length = 64) (hy : y.length = 64) : (sqc ⟨w, h, a, b, il, br, bf, x, y⟩).length = 135 := sqc_len _ ⟨hx, hy⟩
theorem sq_s0 (w h a b : Int) (il : Bool) (br bf : Int) (x y : List UInt8) (v : Int) : (sqc ⟨w, h, a, b, il, br, bf, x, y⟩).set 0 (.int .i64 v) = sqc ⟨v, h, a, b, il, br, bf, x, y⟩ := rfl
theorem sq_s1 (w h a b : Int) (il : Bool) (br bf : Int) (x y : List UInt8) (v : Int) : (sqc ⟨w, h, a, b, il, br, bf, x, y⟩).set 1 (.int .i64 v) = sqc ⟨w, v, a, b, il, br, bf, x, y⟩ := rfl
theorem sq_s2 (w h a b : Int) (il : Bool) (br bf : Int) (x y : List UInt8) (v : Int) : (sqc ⟨w, h, a, b, il, br, bf, x, y⟩).set 2 (.int .i64 v) = sqc ⟨w, h, v, b, il, br, bf, x, y⟩ := rfl
theorem sq_s3 (w h a b : Int) (il : Bool) (br bf : Int) (x y : List UInt8) (v : Int) : (sqc ⟨w, h, a, b, il, br, bf, x, y⟩).set 3 (.int .i64 v) = sqc ⟨w, h, a, v, il, br, bf, x, y⟩ := rfl
theorem sq_s4 (w h a b : Int) (il : Bool) (br bf : Int) (x y : List UInt8) (v : Bool) : (sqc ⟨w, h, a, b, il, br, bf, x, y⟩).set 4 (.bool v) = sqc ⟨w, h, a, b, v, br, bf, x, y⟩ := rfl
theorem sq_s5 (w h a b : Int) (il : Bool) (br bf : Int) (x y : List UInt8) (v : Int) : (sqc ⟨w, h, a, b, il, br, bf, x, y⟩).set 5 (.int .i64 v) = sqc ⟨w, h, a, b, il, v, bf, x, y⟩ := rfl
theorem sq_s6 (w h a b : Int) (il : Bool) (br bf : Int) (x y : List UInt8) (v : Int) : (sqc ⟨w, h, a, b, il, br, bf, x, y⟩).set 6 (.int .i64 v) = sqc ⟨w, h, a, b, il, br, v, x, y⟩ := rfl
theorem sq_s7 (w h a b : Int) (il : Bool) (br bf : Int) (x y m : List UInt8) (hx : x.length = 64) : List.take 7 (sqc ⟨w, h, a, b, il, br, bf, x, y⟩) ++ (bs m ++ List.drop 71 (sqc ⟨w, h, a, b, il, br, bf, x, y⟩)) = sqc ⟨w, h, a, b, il, br, bf, m, y⟩ := by
  have : List.drop 71 (sqc ⟨w, h, a, b, il, br, bf, x, y⟩) = bs y := by
    show List.drop 64 (bs x ++ bs y) = bs y
    exact sq_ie x y hx
  rw [this]; rfl
theorem sq_s71 (w h a b : Int) (il : Bool) (br bf : Int) (x y m : List UInt8) (hx : x.length = 64) (hy : y.length = 64) : List.take 71 (sqc ⟨w, h, a, b, il, br, bf, x, y⟩) ++ (bs m ++ List.drop 135 (sqc ⟨w, h, a, b, il, br, bf, x, y⟩)) = sqc ⟨w, h, a, b, il, br, bf, x, m⟩ := by
  have h1 : List.drop 135 (sqc ⟨w, h, a, b, il, br, bf, x, y⟩) = [] := List.drop_of_length_le (by rw [sqz_len _ _ _ _ _ _ _ _ _ hx hy]; omega)
  have h2 : List.take 71 (sqc ⟨w, h, a, b, il, br, bf, x, y⟩) = .int .i64 w :: .int .i64 h :: .int .i64 a :: .int .i64 b :: .bool il :: .int .i64 br :: .int .i64 bf :: List.take 64 (bs x ++ bs y) := rfl
  rw [h1, h2, sq_ia x y hx, List.append_nil]; rfl

set_option maxHeartbeats 8000000 in
theorem takeS_ok (t : Int) (q : List UInt8) (f : Bool) (H : Heap) (hq : q.length ≤ 100000000) : CallOk Tryz.prog 11 [.agg [.int .i64 t, .slice (bs q) q.length f]] H (rvTS (takeS true t q)) H := by
  obtain ⟨zz1, zz2, zz3⟩ : (sqc zSq).length = 135 ∧ List.take 135 (sqc zSq) = sqc zSq ∧ List.drop 135 (sqc zSq) = [] := by
    have hl : (sqc zSq).length = 135 := sqc_len _ ⟨z64_len, z64_len⟩
    exact ⟨hl, List.take_of_length_le (by omega), List.drop_of_length_le (by omega)⟩
  generalize hr : takeS true t q = r
  unfold takeS at hr
  refine CallOk.body (F0 := [(0, .agg [.int .i64 t, .slice (bs q) q.length f])]) Tryz.func11 rfl Tryz.ntmps11 Tryz.results11 rfl (by kernel_rfl) rfl ?_
  (repeat refine PW.seq ?_); refine PW.rg rfl fun K hK => ?_; simp (maxSteps := 3000000) (disch := omega) only [go_sem, ↓reduceIte, reduceCtorEq, pappend, plen, ↓zcSq]; refine hK _ _ ?_; clear hK K
  by_cases ht : t = 179
  rotate_left
  · rw [if_neg (fun h => ht h.1)] at hr
    have bt : (t != 179) = true := by simp [ht]
    (repeat refine PW.seq ?_); refine PW.rg rfl fun K hK => ?_; simp (maxSteps := 3000000) (disch := omega) only [go_sem, ↓reduceIte, reduceCtorEq, pappend, plen, bt]; refine hK _ _ ?_; clear hK K
    (repeat refine PW.seq ?_); refine PW.cond (t := _) rfl (fun h => ?_) (fun h => ?_)
    rotate_left
    · cases h
    (repeat refine PW.seq ?_); refine PW.rg rfl fun K hK => ?_; simp (maxSteps := 3000000) (disch := omega) only [go_sem, ↓reduceIte, reduceCtorEq, pappend, plen, ↓zcSq, zz1, zz2, zz3]; refine hK _ _ ?_; clear hK K
    refine PW.ret ⟨rvTS (zSq, 3), by simp (maxSteps := 3000000) (disch := omega) only [go_sem, ↓reduceIte, reduceCtorEq, pappend, plen, presults, presult, List.mapM_cons, List.mapM_nil, Option.pure_def, Option.bind_eq_bind, Option.bind_some, Array.toList, zz1, zz2, rvTS], ?_⟩
    rw [← hr]
    exact Fin.base (.id (rvTS_sc _ _))
  have bt : (t != 179) = false := by simp [ht]
  (repeat refine PW.seq ?_); refine PW.rg rfl fun K hK => ?_; simp (maxSteps := 3000000) (disch := omega) only [go_sem, ↓reduceIte, reduceCtorEq, pappend, plen, bt]; refine hK _ _ ?_; clear hK K
  (repeat refine PW.seq ?_); refine PW.cond (t := _) rfl (fun h => ?_) (fun h => ?_)
  · cases h
  refine PW.skip ?_
  by_cases hb : q.length = 0 ∨ lastB q = 0
  · rw [if_neg (fun h => by rcases hb with hb | hb; exact h.2.1 hb; exact h.2.2 hb)] at hr
    have nr := fun K => newr_bad q f K hq hb
    (repeat refine PW.seq ?_); refine PW.rg rfl fun K hK => ?_; simp (maxSteps := 3000000) (disch := omega) only [go_sem, ↓reduceIte, reduceCtorEq, pappend, plen]; refine VCx.call (nr _) rfl ?_; simp (maxSteps := 3000000) (disch := omega) only [go_sem, ↓reduceIte, reduceCtorEq, pappend, plen]; refine hK _ _ ?_; clear hK K
    (repeat refine PW.seq ?_); refine PW.rg rfl fun K hK => ?_; simp (maxSteps := 3000000) (disch := omega) only [go_sem, ↓reduceIte, reduceCtorEq, pappend, plen]; refine hK _ _ ?_; clear hK K
    (repeat refine PW.seq ?_); refine PW.cond (t := _) rfl (fun h => ?_) (fun h => ?_)
    rotate_left
    · cases h
    (repeat refine PW.seq ?_); refine PW.rg rfl fun K hK => ?_; simp (maxSteps := 3000000) (disch := omega) only [go_sem, ↓reduceIte, reduceCtorEq, pappend, plen, ↓zcSq, zz1, zz2, zz3]; refine hK _ _ ?_; clear hK K
    refine PW.ret ⟨rvTS (zSq, 3), by simp (maxSteps := 3000000) (disch := omega) only [go_sem, ↓reduceIte, reduceCtorEq, pappend, plen, presults, presult, List.mapM_cons, List.mapM_nil, Option.pure_def, Option.bind_eq_bind, Option.bind_some, Array.toList, zz1, zz2, rvTS], ?_⟩
    rw [← hr]
    exact Fin.base (.id (rvTS_sc _ _))
  have hq0 : q.length ≠ 0 := fun h => hb (.inl h)
  have hl0 : lastB q ≠ 0 := fun h => hb (.inr h)
  rw [if_pos ⟨ht, hq0, hl0⟩] at hr
  obtain ⟨nb1, nb2, _⟩ := nb_one q hq0 hl0
  have nr := fun K => newr_ok q f K hq hq0 hl0
  (repeat refine PW.seq ?_); refine PW.rg rfl fun K hK => ?_; simp (maxSteps := 3000000) (disch := omega) only [go_sem, ↓reduceIte, reduceCtorEq, pappend, plen]; refine VCx.call (nr _) rfl ?_; simp (maxSteps := 3000000) (disch := omega) only [go_sem, ↓reduceIte, reduceCtorEq, pappend, plen]; refine hK _ _ ?_; clear hK K
  (repeat refine PW.seq ?_); refine PW.rg rfl fun K hK => ?_; simp (maxSteps := 3000000) (disch := omega) only [go_sem, ↓reduceIte, reduceCtorEq, pappend, plen]; refine hK _ _ ?_; clear hK K
  (repeat refine PW.seq ?_); refine PW.cond (t := _) rfl (fun h => ?_) (fun h => ?_)
  · cases h
  refine PW.skip ?_
  (repeat refine PW.seq ?_); refine PW.rg rfl fun K hK => ?_; simp (maxSteps := 3000000) (disch := omega) only [go_sem, ↓reduceIte, reduceCtorEq, pappend, plen]; refine hK _ _ ?_; clear hK K
  (repeat refine PW.seq ?_); refine PW.rg rfl fun K hK => ?_; simp (maxSteps := 3000000) (disch := omega) only [go_sem, ↓reduceIte, reduceCtorEq, pappend, plen, ↓zcSq]; refine hK _ _ ?_; clear hK K
  generalize hn : nb q = n at *
  have hnl : n ≤ 8 * q.length := by omega
  obtain ⟨B, hB⟩ : ∃ B, B = H ++ [⟨31, 0, [.int .i64 t, .slice (bs q) q.length f]⟩, ⟨26, 0, sqc zSq⟩, ⟨5, 1, []⟩, rA q n 0, tkB (H.length + 3) 0] := ⟨_, rfl⟩
  have hBl : B.length = H.length + 5 := by rw [hB]; simp
  have tB : Tk B (H.length + 4) (H.length + 3) q n := ⟨by omega, by omega, by omega, hnl, hq⟩
  have r0 : Rk n (0, 0) := ⟨Nat.zero_le _, Nat.zero_le _⟩
  have hB0 : B = tH B (H.length + 4) (H.length + 3) q n (0, 0) := by
    unfold tH
    exact (two_self (by rw [hB]; simp [apn]) (by rw [hB]; simp [apn])).symm
  have g0 : ∀ x K, (tH B (H.length + 4) (H.length + 3) q n x ++ K)[H.length]? = some ⟨31, 0, [.int .i64 t, .slice (bs q) q.length f]⟩ := fun x K => by
    rw [List.getElem?_append_left (by rw [tH_len]; omega), tH, two, List.getElem?_set_ne (by omega), List.getElem?_set_ne (by omega), hB]
    exact hp0 _ _ _
  have g1 : ∀ x K, (tH B (H.length + 4) (H.length + 3) q n x ++ K)[H.length + 1]? = some ⟨26, 0, sqc zSq⟩ := fun x K => by
    rw [List.getElem?_append_left (by rw [tH_len]; omega), tH, two, List.getElem?_set_ne (by omega), List.getElem?_set_ne (by omega), hB]
    exact hp1 _ _ _ _
  have g4 : ∀ x K, (tH B (H.length + 4) (H.length + 3) q n x ++ K)[H.length + 4]? = some (tkB (H.length + 3) x.2) := fun x K => by
    rw [List.getElem?_append_left (by rw [tH_len]; omega)]
    exact two_0 _ _ _ _ _ ⟨by omega, by omega⟩
  refine PW.at [1, 2, 6, 7] (F1 := [(1, .ptr H.length 0 0), (2, .ptr (H.length + 1) 0 0), (6, .ptr (H.length + 4) 0 0), (7, .ptr B.length 0 0)]) (H1 := tH B (H.length + 4) (H.length + 3) q n (0, 0) ++ [⟨26, 0, sqc zSq⟩]) ?_ (by rw [hBl]; rfl) (by rw [← hB0, hB]; exact (List.append_assoc H [_, _, _, _, _] [_]).symm)
  have zl := z64_len
  unfold zSq
  have n0 : CallOk Tryz.prog 46 [.ptr (H.length + 4) 0 0, .int .i64 (8 : Int)] (tH B (H.length + 4) (H.length + 3) q n ((0, 0) : Nat × Nat) ++ [⟨26, 0, sqc ⟨0, 0, 0, 0, false, 0, 0, z64, z64⟩⟩]) (.int .i64 ((rw' true q n).1 : Int)) (tH B (H.length + 4) (H.length + 3) q n (rw' true q n).2 ++ [⟨26, 0, sqc ⟨0, 0, 0, 0, false, 0, 0, z64, z64⟩⟩]) := num_at tB _ _ 8 r0 (by omega)
  have b0 : (rw' true q n).1 < 2 ^ 8 := nm_lt true q n ((0, 0) : Nat × Nat) 8
  have r1 : Rk n (rw' true q n).2 := r0.nm 8
  (repeat refine PW.seq ?_); refine PW.rg rfl fun K hK => ?_; simp (maxSteps := 3000000) (disch := omega) only [go_sem, ↓reduceIte, reduceCtorEq, pappend, plen]; refine VCx.call (n0) rfl ?_; simp (maxSteps := 3000000) (disch := omega) only [go_sem, ↓reduceIte, reduceCtorEq, pappend, plen, tH_z, tH_sz, sqz_len, zl, sq_s0]; refine hK _ _ ?_; clear hK K
  have n1 : CallOk Tryz.prog 46 [.ptr (H.length + 4) 0 0, .int .i64 (8 : Int)] (tH B (H.length + 4) (H.length + 3) q n (rw' true q n).2 ++ [⟨26, 0, sqc ⟨16 * ((rw' true q n).1 : Int), 0, 0, 0, false, 0, 0, z64, z64⟩⟩]) (.int .i64 ((rh' true q n).1 : Int)) (tH B (H.length + 4) (H.length + 3) q n (rh' true q n).2 ++ [⟨26, 0, sqc ⟨16 * ((rw' true q n).1 : Int), 0, 0, 0, false, 0, 0, z64, z64⟩⟩]) := num_at tB _ _ 8 r1 (by omega)
  have b1 : (rh' true q n).1 < 2 ^ 8 := nm_lt true q n (rw' true q n).2 8
  have r2 : Rk n (rh' true q n).2 := r1.nm 8
  (repeat refine PW.seq ?_); refine PW.rg rfl fun K hK => ?_; simp (maxSteps := 3000000) (disch := omega) only [go_sem, ↓reduceIte, reduceCtorEq, pappend, plen]; refine VCx.call (n1) rfl ?_; simp (maxSteps := 3000000) (disch := omega) only [go_sem, ↓reduceIte, reduceCtorEq, pappend, plen, tH_z, tH_sz, sqz_len, zl, sq_s1]; refine hK _ _ ?_; clear hK K
  have n2 : CallOk Tryz.prog 46 [.ptr (H.length + 4) 0 0, .int .i64 (32 : Int)] (tH B (H.length + 4) (H.length + 3) q n (rh' true q n).2 ++ [⟨26, 0, sqc ⟨16 * ((rw' true q n).1 : Int), 16 * ((rh' true q n).1 : Int), 0, 0, false, 0, 0, z64, z64⟩⟩]) (.int .i64 ((rn' true q n).1 : Int)) (tH B (H.length + 4) (H.length + 3) q n (rn' true q n).2 ++ [⟨26, 0, sqc ⟨16 * ((rw' true q n).1 : Int), 16 * ((rh' true q n).1 : Int), 0, 0, false, 0, 0, z64, z64⟩⟩]) := num_at tB _ _ 32 r2 (by omega)
  have b2 : (rn' true q n).1 < 2 ^ 32 := nm_lt true q n (rh' true q n).2 32
  have r3 : Rk n (rn' true q n).2 := r2.nm 32
  (repeat refine PW.seq ?_); refine PW.rg rfl fun K hK => ?_; simp (maxSteps := 3000000) (disch := omega) only [go_sem, ↓reduceIte, reduceCtorEq, pappend, plen]; refine VCx.call (n2) rfl ?_; simp (maxSteps := 3000000) (disch := omega) only [go_sem, ↓reduceIte, reduceCtorEq, pappend, plen, tH_z, tH_sz, sqz_len, zl, sq_s2]; refine hK _ _ ?_; clear hK K
  have n3 : CallOk Tryz.prog 46 [.ptr (H.length + 4) 0 0, .int .i64 (32 : Int)] (tH B (H.length + 4) (H.length + 3) q n (rn' true q n).2 ++ [⟨26, 0, sqc ⟨16 * ((rw' true q n).1 : Int), 16 * ((rh' true q n).1 : Int), ((rn' true q n).1 : Int), 0, false, 0, 0, z64, z64⟩⟩]) (.int .i64 ((rd' true q n).1 : Int)) (tH B (H.length + 4) (H.length + 3) q n (rd' true q n).2 ++ [⟨26, 0, sqc ⟨16 * ((rw' true q n).1 : Int), 16 * ((rh' true q n).1 : Int), ((rn' true q n).1 : Int), 0, false, 0, 0, z64, z64⟩⟩]) := num_at tB _ _ 32 r3 (by omega)
  have b3 : (rd' true q n).1 < 2 ^ 32 := nm_lt true q n (rn' true q n).2 32
  have r4 : Rk n (rd' true q n).2 := r3.nm 32
  (repeat refine PW.seq ?_); refine PW.rg rfl fun K hK => ?_; simp (maxSteps := 3000000) (disch := omega) only [go_sem, ↓reduceIte, reduceCtorEq, pappend, plen]; refine VCx.call (n3) rfl ?_; simp (maxSteps := 3000000) (disch := omega) only [go_sem, ↓reduceIte, reduceCtorEq, pappend, plen, tH_z, tH_sz, sqz_len, zl, sq_s3]; refine hK _ _ ?_; clear hK K
  have n4 : CallOk Tryz.prog 47 [.ptr (H.length + 4) 0 0] (tH B (H.length + 4) (H.length + 3) q n (rd' true q n).2 ++ [⟨26, 0, sqc ⟨16 * ((rw' true q n).1 : Int), 16 * ((rh' true q n).1 : Int), ((rn' true q n).1 : Int), ((rd' true q n).1 : Int), false, 0, 0, z64, z64⟩⟩]) (.bool (decide ((ri' true q n).1 = 1))) (tH B (H.length + 4) (H.length + 3) q n (ri' true q n).2 ++ [⟨26, 0, sqc ⟨16 * ((rw' true q n).1 : Int), 16 * ((rh' true q n).1 : Int), ((rn' true q n).1 : Int), ((rd' true q n).1 : Int), false, 0, 0, z64, z64⟩⟩]) := flg_at tB _ _ r4
  have b4 : (ri' true q n).1 < 2 ^ 1 := nm_lt true q n (rd' true q n).2 1
  have r5 : Rk n (ri' true q n).2 := r4.nm 1
  (repeat refine PW.seq ?_); refine PW.rg rfl fun K hK => ?_; simp (maxSteps := 3000000) (disch := omega) only [go_sem, ↓reduceIte, reduceCtorEq, pappend, plen]; refine VCx.call (n4) rfl ?_; simp (maxSteps := 3000000) (disch := omega) only [go_sem, ↓reduceIte, reduceCtorEq, pappend, plen, tH_z, tH_sz, sqz_len, zl, sq_s4]; refine hK _ _ ?_; clear hK K
  have n5 : CallOk Tryz.prog 46 [.ptr (H.length + 4) 0 0, .int .i64 (32 : Int)] (tH B (H.length + 4) (H.length + 3) q n (ri' true q n).2 ++ [⟨26, 0, sqc ⟨16 * ((rw' true q n).1 : Int), 16 * ((rh' true q n).1 : Int), ((rn' true q n).1 : Int), ((rd' true q n).1 : Int), decide ((ri' true q n).1 = 1), 0, 0, z64, z64⟩⟩]) (.int .i64 ((rb' true q n).1 : Int)) (tH B (H.length + 4) (H.length + 3) q n (rb' true q n).2 ++ [⟨26, 0, sqc ⟨16 * ((rw' true q n).1 : Int), 16 * ((rh' true q n).1 : Int), ((rn' true q n).1 : Int), ((rd' true q n).1 : Int), decide ((ri' true q n).1 = 1), 0, 0, z64, z64⟩⟩]) := num_at tB _ _ 32 r5 (by omega)
  have b5 : (rb' true q n).1 < 2 ^ 32 := nm_lt true q n (ri' true q n).2 32
  have r6 : Rk n (rb' true q n).2 := r5.nm 32
  (repeat refine PW.seq ?_); refine PW.rg rfl fun K hK => ?_; simp (maxSteps := 3000000) (disch := omega) only [go_sem, ↓reduceIte, reduceCtorEq, pappend, plen]; refine VCx.call (n5) rfl ?_; simp (maxSteps := 3000000) (disch := omega) only [go_sem, ↓reduceIte, reduceCtorEq, pappend, plen, tH_z, tH_sz, sqz_len, zl, sq_s5]; refine hK _ _ ?_; clear hK K
  have n6 : CallOk Tryz.prog 46 [.ptr (H.length + 4) 0 0, .int .i64 (32 : Int)] (tH B (H.length + 4) (H.length + 3) q n (rb' true q n).2 ++ [⟨26, 0, sqc ⟨16 * ((rw' true q n).1 : Int), 16 * ((rh' true q n).1 : Int), ((rn' true q n).1 : Int), ((rd' true q n).1 : Int), decide ((ri' true q n).1 = 1), ((rb' true q n).1 : Int), 0, z64, z64⟩⟩]) (.int .i64 ((rf' true q n).1 : Int)) (tH B (H.length + 4) (H.length + 3) q n (rf' true q n).2 ++ [⟨26, 0, sqc ⟨16 * ((rw' true q n).1 : Int), 16 * ((rh' true q n).1 : Int), ((rn' true q n).1 : Int), ((rd' true q n).1 : Int), decide ((ri' true q n).1 = 1), ((rb' true q n).1 : Int), 0, z64, z64⟩⟩]) := num_at tB _ _ 32 r6 (by omega)
  have b6 : (rf' true q n).1 < 2 ^ 32 := nm_lt true q n (rb' true q n).2 32
  have r7 : Rk n (rf' true q n).2 := r6.nm 32
  (repeat refine PW.seq ?_); refine PW.rg rfl fun K hK => ?_; simp (maxSteps := 3000000) (disch := omega) only [go_sem, ↓reduceIte, reduceCtorEq, pappend, plen]; refine VCx.call (n6) rfl ?_; simp (maxSteps := 3000000) (disch := omega) only [go_sem, ↓reduceIte, reduceCtorEq, pappend, plen, tH_z, tH_sz, sqz_len, zl, sq_s6]; refine hK _ _ ?_; clear hK K
  have la := (ra_b true q n).1
  have le := (re_b true q n).1
  have ea : ra' true q n = rdM true q n dIn (rf' true q n).2 := by unfold ra'; exact Eq.refl _
  have ee : re' true q n = rdM true q n dIt (ra' true q n).2 := by unfold re'; exact Eq.refl _
  have n8 := tmat_ok tB [⟨26, 0, sqc ⟨16 * ((rw' true q n).1 : Int), 16 * ((rh' true q n).1 : Int), ((rn' true q n).1 : Int), ((rd' true q n).1 : Int), decide ((ri' true q n).1 = 1), ((rb' true q n).1 : Int), ((rf' true q n).1 : Int), z64, z64⟩⟩] (rf' true q n).2 r7 dIn dIn_len
  rw [← ea] at n8
  have r8 : Rk n (ra' true q n).2 := by rw [ea]; exact r7.rdM
  have la' : (bs (ra' true q n).1).length = 64 := by rw [length_bs]; exact la
  (repeat refine PW.seq ?_); refine PW.rg rfl fun K hK => ?_; simp (maxSteps := 3000000) (disch := omega) only [go_sem, ↓reduceIte, reduceCtorEq, pappend, plen]; refine VCx.call (din_ok _) rfl ?_; simp (maxSteps := 3000000) (disch := omega) only [go_sem, ↓reduceIte, reduceCtorEq, pappend, plen]; refine VCx.call (n8) rfl ?_; simp (maxSteps := 3000000) (disch := omega) only [go_sem, ↓reduceIte, reduceCtorEq, pappend, plen, tH_z, tH_sz, sqz_len, zl, la', Nat.reduceAdd, sq_s7]; refine hK _ _ ?_; clear hK K
  have n9 := tmat_ok tB [⟨26, 0, sqc ⟨16 * ((rw' true q n).1 : Int), 16 * ((rh' true q n).1 : Int), ((rn' true q n).1 : Int), ((rd' true q n).1 : Int), decide ((ri' true q n).1 = 1), ((rb' true q n).1 : Int), ((rf' true q n).1 : Int), (ra' true q n).1, z64⟩⟩] (ra' true q n).2 r8 dIt dIt_len
  rw [← ee] at n9
  have r9 : Rk n (re' true q n).2 := by rw [ee]; exact r8.rdM
  have le' : (bs (re' true q n).1).length = 64 := by rw [length_bs]; exact le
  (repeat refine PW.seq ?_); refine PW.rg rfl fun K hK => ?_; simp (maxSteps := 3000000) (disch := omega) only [go_sem, ↓reduceIte, reduceCtorEq, pappend, plen]; refine VCx.call (dit_ok _) rfl ?_; simp (maxSteps := 3000000) (disch := omega) only [go_sem, ↓reduceIte, reduceCtorEq, pappend, plen]; refine VCx.call (n9) rfl ?_; simp (maxSteps := 3000000) (disch := omega) only [go_sem, ↓reduceIte, reduceCtorEq, pappend, plen, tH_z, tH_sz, sqz_len, zl, la, le', Nat.reduceAdd, sq_s71]; refine hK _ _ ?_; clear hK K
  obtain ⟨s, hs⟩ : ∃ s, s = rdS true q n := ⟨_, rfl⟩
  have hso : SqOk s := by rw [hs]; exact rdS_ok _ _ _
  have hsx : rdS true q n = ⟨16 * ((rw' true q n).1 : Int), 16 * ((rh' true q n).1 : Int), ((rn' true q n).1 : Int), ((rd' true q n).1 : Int), decide ((ri' true q n).1 = 1), ((rb' true q n).1 : Int), ((rf' true q n).1 : Int), (ra' true q n).1, (re' true q n).1⟩ := by unfold rdS; exact Eq.refl _
  rw [← hsx, ← hs]
  rw [← hs] at hr
  generalize (re' true q n).2 = z at *
  have l135 : (sqc s).length = 135 := sqc_len _ ⟨hso.ia, hso.ie⟩
  have t135 : List.take 135 (sqc s) = sqc s := List.take_of_length_le (by omega)
  have po := fun K => puts_ok s K hso
  have rz := r9.e
  have be := beq_ok (putS s).2.1 q false f
  (repeat refine PW.seq ?_); refine PW.rg rfl fun K hK => ?_; simp (maxSteps := 3000000) (disch := omega) only [go_sem, ↓reduceIte, reduceCtorEq, pappend, plen, tH_z, l135, t135]; refine VCx.call (po _) rfl ?_; simp (maxSteps := 3000000) (disch := omega) only [go_sem, ↓reduceIte, reduceCtorEq, pappend, plen, tH_len, List.length_append, tH_n, tH_s, uv]; refine hK _ _ ?_; clear hK K
  have hT : ∀ K, tH B (H.length + 4) (H.length + 3) q n z ++ K = H ++ (⟨31, 0, [.int .i64 t, .slice (bs q) q.length f]⟩ :: ⟨26, 0, sqc zSq⟩ :: ⟨5, 1, []⟩ :: rA q n z.1 :: tkB (H.length + 3) z.2 :: K) := fun K => by
    unfold tH two
    rw [hB, aps, aps, List.append_assoc]; rfl
  generalize hP : (putS s).2.1 = P at *
  obtain ⟨zz1, zz2, zz3⟩ : (sqc zSq).length = 135 ∧ List.take 135 (sqc zSq) = sqc zSq ∧ List.drop 135 (sqc zSq) = [] := by
    have hl : (sqc zSq).length = 135 := sqc_len _ ⟨z64_len, z64_len⟩
    exact ⟨hl, List.take_of_length_le (by omega), List.drop_of_length_le (by omega)⟩
  have d135 : List.drop 135 (sqc s) = [] := List.drop_of_length_le (by omega)
  refine PW.keep [1, 2, 5, 6, 7, 8] ?_
  suffices hfail : (zSq, 3) = r → PW Tryz.prog _ _ [(2, .ptr (H.length + 1) 0 0), (67, .bool true)] (H ++ (⟨31, 0, [.int .i64 t, .slice (bs q) q.length f]⟩ :: ⟨26, 0, sqc zSq⟩ :: ⟨5, 1, []⟩ :: rA q n z.1 :: tkB (H.length + 3) z.2 :: [⟨26, 0, sqc s⟩, ⟨31, 0, [.int .i64 (putS s).1, .slice (bs P) P.length false]⟩])) _ by
    by_cases hz : z.2 = 0
    rotate_left
    · have bz : ((z.2 : Int) != 0) = true := by simp; omega
      rw [if_neg (fun h => hz h.1)] at hr
      (repeat refine PW.seq ?_); refine PW.rg rfl fun K hK => ?_; simp (maxSteps := 3000000) (disch := omega) only [go_sem, ↓reduceIte, reduceCtorEq, pappend, plen, g4, tkB, bz]; refine hK _ _ ?_; clear hK K
      exact PW.at [2, 67] (hfail hr) rfl (hT _)
    have bz : ((z.2 : Int) != 0) = false := by simp [hz]
    cases hv : vseq s with
    | false =>
      rw [if_neg (fun h => by rw [hv] at h; exact absurd h.2.1 (by decide))] at hr
      have hp5 : (putS s).2.2 = 1 := by unfold putS; rw [if_neg (by rw [hv]; decide)]
      have b5 : ((putS s).2.2 != 0) = true := by rw [hp5]; rfl
      (repeat refine PW.seq ?_); refine PW.rg rfl fun K hK => ?_; simp (maxSteps := 3000000) (disch := omega) only [go_sem, ↓reduceIte, reduceCtorEq, pappend, plen, g4, tkB, bz, b5]; refine hK _ _ ?_; clear hK K
      exact PW.at [2, 67] (hfail hr) rfl (hT _)
    | true =>
      have hp5 : (putS s).2.2 = 0 := by unfold putS; rw [if_pos hv]
      have hp4 : P = pk (sbits s ++ [true]) := by rw [← hP]; unfold putS; rw [if_pos hv]
      have b5 : ((putS s).2.2 != 0) = false := by rw [hp5]; rfl
      by_cases he : P = q
      rotate_left
      · rw [if_neg (fun h => he (by rw [hp4]; exact h.2.2))] at hr
        have be' := fun K => be K
        rw [show (P == q) = false by simpa using he] at be'
        (repeat refine PW.seq ?_); refine PW.rg rfl fun K hK => ?_; simp (maxSteps := 3000000) (disch := omega) only [go_sem, ↓reduceIte, reduceCtorEq, pappend, plen, g4, tkB, bz, b5, tH_n, g0]
        refine VCx.call (be' _) rfl ?_; simp (maxSteps := 3000000) (disch := omega) only [go_sem, ↓reduceIte, reduceCtorEq, pappend, plen]; refine hK _ _ ?_; clear hK K
        exact PW.at [2, 67] (hfail hr) rfl (hT _)
      · rw [if_pos ⟨hz, hv, by rw [← hp4]; exact he⟩] at hr
        have be' := fun K => be K
        rw [show (P == q) = true by simpa using he] at be'
        (repeat refine PW.seq ?_); refine PW.rg rfl fun K hK => ?_; simp (maxSteps := 3000000) (disch := omega) only [go_sem, ↓reduceIte, reduceCtorEq, pappend, plen, g4, tkB, bz, b5, tH_n, g0]
        refine VCx.call (be' _) rfl ?_; simp (maxSteps := 3000000) (disch := omega) only [go_sem, ↓reduceIte, reduceCtorEq, pappend, plen]; refine hK _ _ ?_; clear hK K
        (repeat refine PW.seq ?_); refine PW.cond (t := _) rfl (fun h => ?_) (fun h => ?_)
        · cases h
        refine PW.skip ?_
        refine PW.eq rfl (hT _) ?_
        refine PW.at [2, 7] (F1 := [(2, .ptr (H.length + 1) 0 0), (7, .ptr (H.length + 5) 0 0)]) ?_ (by rw [← hBl]; rfl) rfl
        (repeat refine PW.seq ?_); refine PW.rg rfl fun K hK => ?_; simp (maxSteps := 3000000) (disch := omega) only [go_sem, ↓reduceIte, reduceCtorEq, pappend, plen, apn, l135, t135, zz1, zz3, d135, List.append_nil]; refine hK _ _ ?_; clear hK K
        refine PW.ret ⟨rvTS (s, 0), by simp (maxSteps := 3000000) (disch := omega) only [go_sem, ↓reduceIte, reduceCtorEq, pappend, plen, presults, presult, List.mapM_cons, List.mapM_nil, Option.pure_def, Option.bind_eq_bind, Option.bind_some, Array.toList, l135, t135, rvTS], ?_⟩
        rw [← hr]
        exact Fin.base (.id (rvTS_sc _ _))
  intro hr
  (repeat refine PW.seq ?_); refine PW.cond (t := _) rfl (fun h => ?_) (fun h => ?_)
  rotate_left
  · cases h
  (repeat refine PW.seq ?_); refine PW.rg rfl fun K hK => ?_; simp (maxSteps := 3000000) (disch := omega) only [go_sem, ↓reduceIte, reduceCtorEq, pappend, plen, ↓zcSq, zz1, zz2, zz3]; refine hK _ _ ?_; clear hK K
  refine PW.ret ⟨rvTS (zSq, 3), by simp (maxSteps := 3000000) (disch := omega) only [go_sem, ↓reduceIte, reduceCtorEq, pappend, plen, presults, presult, List.mapM_cons, List.mapM_nil, Option.pure_def, Option.bind_eq_bind, Option.bind_some, Array.toList, zz1, zz2, rvTS], ?_⟩
  rw [← hr]
  exact Fin.base (.id (rvTS_sc _ _))

def rvTG (x : Bool × Bool × Int × Int) : PV := .tup [.agg [.bool x.1, .bool x.2.1, .int .i64 x.2.2.1], .int .i64 x.2.2.2]
theorem rvTG_sc (n : Nat) (x : Bool × Bool × Int × Int) : Scoped n (rvTG x) := .tup (all_scoped fun y hy => by
  simp only [List.mem_cons, List.not_mem_nil, or_false] at hy
  rcases hy with rfl | rfl
  · refine ag_scoped fun y hy => ?_
    simp only [List.mem_cons, List.not_mem_nil, or_false] at hy
    rcases hy with rfl | rfl | rfl
    · exact .bool _
    · exact .bool _
    · exact .int _ _
  · exact .int _ _)
theorem nm_in {st : Bool} {q : List UInt8} {n a k : Nat} (h : a + k ≤ n) : nm st q n (a, 0) k = (vl q a k, a + k, 0) := by
  unfold nm
  rw [if_neg (by simp), if_pos h]

set_option maxHeartbeats 4000000 in
theorem takeG_ok (t : Int) (q : List UInt8) (f : Bool) (H : Heap) (hq : q.length ≤ 100000000) : CallOk Tryz.prog 14 [.agg [.int .i64 t, .slice (bs q) q.length f]] H (rvTG (takeG t q)) H := by
  generalize hr : takeG t q = r
  unfold takeG at hr
  refine CallOk.body (F0 := [(0, .agg [.int .i64 t, .slice (bs q) q.length f])]) Tryz.func14 rfl Tryz.ntmps14 Tryz.results14 rfl (by kernel_rfl) rfl ?_
  (repeat refine PW.seq ?_); refine PW.rg rfl fun K hK => ?_; simp (maxSteps := 3000000) (disch := omega) only [go_sem, ↓reduceIte, reduceCtorEq, pappend, plen]; refine hK _ _ ?_; clear hK K
  by_cases ht : t = 184
  rotate_left
  · rw [if_neg (fun h => ht h.1)] at hr
    have bt : (t != 184) = true := by simp [ht]
    (repeat refine PW.seq ?_); refine PW.rg rfl fun K hK => ?_; simp (maxSteps := 3000000) (disch := omega) only [go_sem, ↓reduceIte, reduceCtorEq, pappend, plen, bt]; refine hK _ _ ?_; clear hK K
    (repeat refine PW.seq ?_); refine PW.cond (t := _) rfl (fun h => ?_) (fun h => ?_)
    rotate_left
    · cases h
    (repeat refine PW.seq ?_); refine PW.rg rfl fun K hK => ?_; simp (maxSteps := 3000000) (disch := omega) only [go_sem, ↓reduceIte, reduceCtorEq, pappend, plen]; refine hK _ _ ?_; clear hK K
    refine PW.ret ⟨rvTG (false, false, 0, 3), by simp (maxSteps := 3000000) (disch := omega) only [go_sem, ↓reduceIte, reduceCtorEq, pappend, plen, presults, presult, List.mapM_cons, List.mapM_nil, Option.pure_def, Option.bind_eq_bind, Option.bind_some, Array.toList, rvTG], ?_⟩
    rw [← hr]
    exact Fin.base (.id (rvTG_sc _ _))
  have bt : (t != 184) = false := by simp [ht]
  (repeat refine PW.seq ?_); refine PW.rg rfl fun K hK => ?_; simp (maxSteps := 3000000) (disch := omega) only [go_sem, ↓reduceIte, reduceCtorEq, pappend, plen, bt]; refine hK _ _ ?_; clear hK K
  (repeat refine PW.seq ?_); refine PW.cond (t := _) rfl (fun h => ?_) (fun h => ?_)
  · cases h
  refine PW.skip ?_
  by_cases hb : q.length = 0 ∨ lastB q = 0
  · rw [if_neg (fun h => by rcases hb with hb | hb; exact h.2.1 hb; exact h.2.2.1 hb)] at hr
    have nr := fun K => newr_bad q f K hq hb
    (repeat refine PW.seq ?_); refine PW.rg rfl fun K hK => ?_; simp (maxSteps := 3000000) (disch := omega) only [go_sem, ↓reduceIte, reduceCtorEq, pappend, plen]; refine VCx.call (nr _) rfl ?_; simp (maxSteps := 3000000) (disch := omega) only [go_sem, ↓reduceIte, reduceCtorEq, pappend, plen]; refine hK _ _ ?_; clear hK K
    (repeat refine PW.seq ?_); refine PW.rg rfl fun K hK => ?_; simp (maxSteps := 3000000) (disch := omega) only [go_sem, ↓reduceIte, reduceCtorEq, pappend, plen]; refine hK _ _ ?_; clear hK K
    (repeat refine PW.seq ?_); refine PW.cond (t := _) rfl (fun h => ?_) (fun h => ?_)
    rotate_left
    · cases h
    (repeat refine PW.seq ?_); refine PW.rg rfl fun K hK => ?_; simp (maxSteps := 3000000) (disch := omega) only [go_sem, ↓reduceIte, reduceCtorEq, pappend, plen]; refine hK _ _ ?_; clear hK K
    refine PW.ret ⟨rvTG (false, false, 0, 3), by simp (maxSteps := 3000000) (disch := omega) only [go_sem, ↓reduceIte, reduceCtorEq, pappend, plen, presults, presult, List.mapM_cons, List.mapM_nil, Option.pure_def, Option.bind_eq_bind, Option.bind_some, Array.toList, rvTG], ?_⟩
    rw [← hr]
    exact Fin.base (.id (rvTG_sc _ _))
  have hq0 : q.length ≠ 0 := fun h => hb (.inl h)
  have hl0 : lastB q ≠ 0 := fun h => hb (.inr h)
  obtain ⟨nb1, nb2, _⟩ := nb_one q hq0 hl0
  have nr := fun K => newr_ok q f K hq hq0 hl0
  (repeat refine PW.seq ?_); refine PW.rg rfl fun K hK => ?_; simp (maxSteps := 3000000) (disch := omega) only [go_sem, ↓reduceIte, reduceCtorEq, pappend, plen]; refine VCx.call (nr _) rfl ?_; simp (maxSteps := 3000000) (disch := omega) only [go_sem, ↓reduceIte, reduceCtorEq, pappend, plen]; refine hK _ _ ?_; clear hK K
  have lf := rleft_ok (H.length + 3) q (nb q) 0 (H ++ [⟨31, 0, [.int .i64 t, .slice (bs q) q.length f]⟩, ⟨28, 0, [.bool false, .bool false, .int .i64 0]⟩, ⟨5, 1, []⟩, rA q (nb q) 0]) (hp3 _ _ _ _ _ _) (Nat.zero_le _) (by omega)
  rw [Nat.sub_zero] at lf
  (repeat refine PW.seq ?_); refine PW.rg rfl fun K hK => ?_; simp (maxSteps := 3000000) (disch := omega) only [go_sem, ↓reduceIte, reduceCtorEq, pappend, plen]
  refine VCx.call (lf) rfl ?_; simp (maxSteps := 3000000) (disch := omega) only [go_sem, ↓reduceIte, reduceCtorEq, pappend, plen]
  by_cases h26 : nb q = 26
  rotate_left
  · have d26 : ((nb q : Int) != 26) = true := by simp; omega
    rw [if_neg (fun h => h26 h.2.2.2)] at hr
    refine hK _ _ ?_; clear hK K
    (repeat refine PW.seq ?_); refine PW.cond (t := _) rfl (fun h => ?_) (fun h => ?_)
    rotate_left
    · rw [d26] at h; cases h
    (repeat refine PW.seq ?_); refine PW.rg rfl fun K hK => ?_; simp (maxSteps := 3000000) (disch := omega) only [go_sem, ↓reduceIte, reduceCtorEq, pappend, plen]; refine hK _ _ ?_; clear hK K
    refine PW.ret ⟨rvTG (false, false, 0, 3), by simp (maxSteps := 3000000) (disch := omega) only [go_sem, ↓reduceIte, reduceCtorEq, pappend, plen, presults, presult, List.mapM_cons, List.mapM_nil, Option.pure_def, Option.bind_eq_bind, Option.bind_some, Array.toList, rvTG], ?_⟩
    rw [← hr]
    exact Fin.base (.id (rvTG_sc _ _))
  have d26 : ((nb q : Int) != 26) = false := by rw [h26]; rfl
  rw [if_pos ⟨ht, hq0, hl0, h26⟩] at hr
  refine hK _ _ ?_; clear hK K
  (repeat refine PW.seq ?_); refine PW.cond (t := _) rfl (fun h => ?_) (fun h => ?_)
  · rw [d26] at h; cases h
  refine PW.skip ?_
  (repeat refine PW.seq ?_); refine PW.rg rfl fun K hK => ?_; simp (maxSteps := 3000000) (disch := omega) only [go_sem, ↓reduceIte, reduceCtorEq, pappend, plen]; refine hK _ _ ?_; clear hK K
  (repeat refine PW.seq ?_); refine PW.rg rfl fun K hK => ?_; simp (maxSteps := 3000000) (disch := omega) only [go_sem, ↓reduceIte, reduceCtorEq, pappend, plen]; refine hK _ _ ?_; clear hK K
  rw [h26] at lf ⊢
  have hnl : 26 ≤ 8 * q.length := by omega
  obtain ⟨B, hB⟩ : ∃ B, B = H ++ [⟨31, 0, [.int .i64 t, .slice (bs q) q.length f]⟩, ⟨28, 0, [.bool false, .bool false, .int .i64 0]⟩, ⟨5, 1, []⟩, rA q 26 0, tkB (H.length + 3) 0] := ⟨_, rfl⟩
  have hBl : B.length = H.length + 5 := by rw [hB]; simp
  have tB : Tk B (H.length + 4) (H.length + 3) q 26 := ⟨by omega, by omega, by omega, hnl, hq⟩
  have hB0 : B = tH B (H.length + 4) (H.length + 3) q 26 (0, 0) := by
    unfold tH
    exact (two_self (by rw [hB]; simp [apn]) (by rw [hB]; simp [apn])).symm
  refine PW.at [1, 2, 6, 7] (F1 := [(1, .ptr H.length 0 0), (2, .ptr (H.length + 1) 0 0), (6, .ptr (H.length + 4) 0 0), (7, .ptr B.length 0 0)]) (H1 := tH B (H.length + 4) (H.length + 3) q 26 (0, 0) ++ [⟨28, 0, [.bool false, .bool false, .int .i64 0]⟩]) ?_ (by rw [hBl]; rfl) (by rw [← hB0, hB]; exact (List.append_assoc H [_, _, _, _, _] [_]).symm)
  have n1 := fun K => flg_at tB K (0, 0) ⟨Nat.zero_le _, Nat.zero_le _⟩
  have n2 := fun K => flg_at tB K (1, 0) ⟨by decide, Nat.zero_le _⟩
  have n3 := fun K => num_at tB K (2, 0) 24 ⟨by decide, Nat.zero_le _⟩ (by omega)
  rw [nm_in (by omega)] at n1 n2 n3
  dsimp only at n1 n2 n3
  have b3 := vl_lt q 2 24
  (repeat refine PW.seq ?_); refine PW.rg rfl fun K hK => ?_; simp (maxSteps := 3000000) (disch := omega) only [go_sem, ↓reduceIte, reduceCtorEq, pappend, plen]; refine VCx.call (n1 _) rfl ?_; simp (maxSteps := 3000000) (disch := omega) only [go_sem, ↓reduceIte, reduceCtorEq, pappend, plen, tH_z, tH_sz]; refine hK _ _ ?_; clear hK K
  (repeat refine PW.seq ?_); refine PW.rg rfl fun K hK => ?_; simp (maxSteps := 3000000) (disch := omega) only [go_sem, ↓reduceIte, reduceCtorEq, pappend, plen]; refine VCx.call (n2 _) rfl ?_; simp (maxSteps := 3000000) (disch := omega) only [go_sem, ↓reduceIte, reduceCtorEq, pappend, plen, tH_z, tH_sz]; refine hK _ _ ?_; clear hK K
  (repeat refine PW.seq ?_); refine PW.rg rfl fun K hK => ?_; simp (maxSteps := 3000000) (disch := omega) only [go_sem, ↓reduceIte, reduceCtorEq, pappend, plen]; refine VCx.call (n3 _) rfl ?_; simp (maxSteps := 3000000) (disch := omega) only [go_sem, ↓reduceIte, reduceCtorEq, pappend, plen, tH_z, tH_sz]; refine hK _ _ ?_; clear hK K
  have hT : ∀ K, tH B (H.length + 4) (H.length + 3) q 26 (2 + 24, 0) ++ K = H ++ (⟨31, 0, [.int .i64 t, .slice (bs q) q.length f]⟩ :: ⟨28, 0, [.bool false, .bool false, .int .i64 0]⟩ :: ⟨5, 1, []⟩ :: rA q 26 (2 + 24) :: tkB (H.length + 3) 0 :: K) := fun K => by
    unfold tH two
    rw [hB, aps, aps, List.append_assoc]; rfl
  refine PW.at [2, 7] (F1 := [(2, .ptr (H.length + 1) 0 0), (7, .ptr (H.length + 5) 0 0)]) ?_ (by rw [← hBl]; rfl) (hT _)
  (repeat refine PW.seq ?_); refine PW.rg rfl fun K hK => ?_; simp (maxSteps := 3000000) (disch := omega) only [go_sem, ↓reduceIte, reduceCtorEq, pappend, plen, apn]; refine hK _ _ ?_; clear hK K
  refine PW.ret ⟨rvTG (decide (vl q 0 1 = 1), decide (vl q 1 1 = 1), (vl q 2 24 : Int), 0), by simp (maxSteps := 3000000) (disch := omega) only [go_sem, ↓reduceIte, reduceCtorEq, pappend, plen, presults, presult, List.mapM_cons, List.mapM_nil, Option.pure_def, Option.bind_eq_bind, Option.bind_some, Array.toList, rvTG], ?_⟩
  rw [← hr]
  exact Fin.base (.id (rvTG_sc _ _))

end Go.Proofs.YtnnkohejhnjflaaGreatDoor.Sc

namespace Go.Proofs.YtnnkohejhnjflaaGreatDoor.Sc
set_option linter.all false
set_option linter.unusedVariables false
set_option linter.unusedSimpArgs false
open Pm Ty Go.RowKit

theorem beq1 (x : Nat) : ((x : Int) == 1) = decide (x = 1) := by
  rw [Bool.eq_iff_iff]; simp; omega
theorem dl1 : (List.drop 1 (sqc zSq)).length = 134 := by kernel_rfl
theorem sq_b01 (w h : Int) : PV.int .i64 w :: PV.int .i64 h :: List.drop 1 (List.drop 1 (sqc zSq)) = sqc ⟨w, h, 0, 0, false, 0, 0, z64, z64⟩ := rfl
theorem sq_s23 (w h a b : Int) (il : Bool) (br bf : Int) (x y : List UInt8) (c d : Int) : List.take 2 (sqc ⟨w, h, a, b, il, br, bf, x, y⟩) ++ (.int .i64 c :: .int .i64 d :: List.drop 4 (sqc ⟨w, h, a, b, il, br, bf, x, y⟩)) = sqc ⟨w, h, c, d, il, br, bf, x, y⟩ := rfl

set_option maxHeartbeats 8000000 in
theorem takeS_ref (t : Int) (q : List UInt8) (f : Bool) (H : Heap) (hq : q.length ≤ 100000000) : CallOk Tryz.prog 16 [.agg [.int .i64 t, .slice (bs q) q.length f]] H (rvTS (takeS false t q)) H := by
  obtain ⟨zz1, zz2, zz3⟩ : (sqc zSq).length = 135 ∧ List.take 135 (sqc zSq) = sqc zSq ∧ List.drop 135 (sqc zSq) = [] := by
    have hl : (sqc zSq).length = 135 := sqc_len _ ⟨z64_len, z64_len⟩
    exact ⟨hl, List.take_of_length_le (by omega), List.drop_of_length_le (by omega)⟩
  generalize hr : takeS false t q = r
  unfold takeS at hr
  refine CallOk.body (F0 := [(0, .agg [.int .i64 t, .slice (bs q) q.length f])]) Tryz.func16 rfl Tryz.ntmps16 Tryz.results16 rfl (by kernel_rfl) rfl ?_
  (repeat refine PW.seq ?_); refine PW.rg rfl fun K hK => ?_; simp (maxSteps := 3000000) (disch := omega) only [go_sem, ↓reduceIte, reduceCtorEq, pappend, plen, ↓zcSq]; refine hK _ _ ?_; clear hK K
  by_cases hb : q.length = 0 ∨ lastB q = 0
  · rw [if_neg (fun h => by rcases hb with hb | hb; exact h.2.1 hb; exact h.2.2 hb)] at hr
    have nr := fun K => open_bad q f K hq hb
    (repeat refine PW.seq ?_); refine PW.rg rfl fun K hK => ?_; simp (maxSteps := 3000000) (disch := omega) only [go_sem, ↓reduceIte, reduceCtorEq, pappend, plen]; refine VCx.call (nr _) rfl ?_; simp (maxSteps := 3000000) (disch := omega) only [go_sem, ↓reduceIte, reduceCtorEq, pappend, plen]; refine hK _ _ ?_; clear hK K
    (repeat refine PW.seq ?_); refine PW.rg rfl fun K hK => ?_; simp (maxSteps := 3000000) (disch := omega) only [go_sem, ↓reduceIte, reduceCtorEq, pappend, plen]; refine hK _ _ ?_; clear hK K
    (repeat refine PW.seq ?_); refine PW.cond (t := _) rfl (fun h => ?_) (fun h => ?_)
    rotate_left
    · cases h
    (repeat refine PW.seq ?_); refine PW.rg rfl fun K hK => ?_; simp (maxSteps := 3000000) (disch := omega) only [go_sem, ↓reduceIte, reduceCtorEq, pappend, plen, ↓zcSq, zz1, zz2, zz3]; refine hK _ _ ?_; clear hK K
    refine PW.ret ⟨rvTS (zSq, 3), by simp (maxSteps := 3000000) (disch := omega) only [go_sem, ↓reduceIte, reduceCtorEq, pappend, plen, presults, presult, List.mapM_cons, List.mapM_nil, Option.pure_def, Option.bind_eq_bind, Option.bind_some, Array.toList, zz1, zz2, rvTS], ?_⟩
    rw [← hr]
    exact Fin.base (.id (rvTS_sc _ _))
  have hq0 : q.length ≠ 0 := fun h => hb (.inl h)
  have hl0 : lastB q ≠ 0 := fun h => hb (.inr h)
  obtain ⟨nb1, nb2, _⟩ := nb_one q hq0 hl0
  have nr := fun K => open_ok q f K hq hq0 hl0
  (repeat refine PW.seq ?_); refine PW.rg rfl fun K hK => ?_; simp (maxSteps := 3000000) (disch := omega) only [go_sem, ↓reduceIte, reduceCtorEq, pappend, plen]; refine VCx.call (nr _) rfl ?_; simp (maxSteps := 3000000) (disch := omega) only [go_sem, ↓reduceIte, reduceCtorEq, pappend, plen]; refine hK _ _ ?_; clear hK K
  by_cases ht : t = 179
  rotate_left
  · rw [if_neg (fun h => ht h.1)] at hr
    have bt : (t != 179) = true := by simp [ht]
    (repeat refine PW.seq ?_); refine PW.rg rfl fun K hK => ?_; simp (maxSteps := 3000000) (disch := omega) only [go_sem, ↓reduceIte, reduceCtorEq, pappend, plen, bt]; refine hK _ _ ?_; clear hK K
    (repeat refine PW.seq ?_); refine PW.cond (t := _) rfl (fun h => ?_) (fun h => ?_)
    rotate_left
    · cases h
    (repeat refine PW.seq ?_); refine PW.rg rfl fun K hK => ?_; simp (maxSteps := 3000000) (disch := omega) only [go_sem, ↓reduceIte, reduceCtorEq, pappend, plen, ↓zcSq, zz1, zz2, zz3]; refine hK _ _ ?_; clear hK K
    refine PW.ret ⟨rvTS (zSq, 3), by simp (maxSteps := 3000000) (disch := omega) only [go_sem, ↓reduceIte, reduceCtorEq, pappend, plen, presults, presult, List.mapM_cons, List.mapM_nil, Option.pure_def, Option.bind_eq_bind, Option.bind_some, Array.toList, zz1, zz2, rvTS], ?_⟩
    rw [← hr]
    exact Fin.base (.id (rvTS_sc _ _))
  rw [if_pos ⟨ht, hq0, hl0⟩] at hr
  have bt : (t != 179) = false := by simp [ht]
  (repeat refine PW.seq ?_); refine PW.rg rfl fun K hK => ?_; simp (maxSteps := 3000000) (disch := omega) only [go_sem, ↓reduceIte, reduceCtorEq, pappend, plen, bt]; refine hK _ _ ?_; clear hK K
  (repeat refine PW.seq ?_); refine PW.cond (t := _) rfl (fun h => ?_) (fun h => ?_)
  · cases h
  refine PW.skip ?_
  generalize hn : nb q = n at *
  generalize hvv : 8 * q.length = v at *
  have hnl : n ≤ 8 * q.length := by omega
  obtain ⟨B, hB⟩ : ∃ B, B = H ++ [⟨31, 0, [.int .i64 t, .slice (bs q) q.length f]⟩, ⟨26, 0, sqc zSq⟩, rB q v, rR (H.length + 2) v n 0] := ⟨_, rfl⟩
  have hBl : B.length = H.length + 4 := by rw [hB]; simp
  have tB : Wk B (H.length + 3) (H.length + 2) v q n := ⟨by omega, by rw [hB]; exact hp2 _ _ _ _ _, by omega, hnl, hq⟩
  have r0 : Rf n (0, 0) := ⟨Nat.zero_le _, rfl⟩
  have hB0 : B = wH B (H.length + 3) (H.length + 2) v n (0, 0) := by
    unfold wH
    exact (set_self (by rw [hB]; simp [apn])).symm
  have g0 : ∀ x K, (wH B (H.length + 3) (H.length + 2) v n x ++ K)[H.length]? = some ⟨31, 0, [.int .i64 t, .slice (bs q) q.length f]⟩ := fun x K => by
    rw [List.getElem?_append_left (by rw [wH_len]; omega), wH, List.getElem?_set_ne (by omega), hB]
    exact hp0 _ _ _
  refine PW.at [1, 2, 4] (F1 := [(1, .ptr H.length 0 0), (2, .ptr (H.length + 1) 0 0), (4, .ptr (H.length + 3) 0 0)]) (H1 := wH B (H.length + 3) (H.length + 2) v n (0, 0)) ?_ rfl (by rw [← hB0, hB])
  have zl := z64_len
  have n0 : CallOk Tryz.prog 52 [.ptr (H.length + 3) 0 0, .int .i64 (8 : Int)] (wH B (H.length + 3) (H.length + 2) v n ((0, 0) : Nat × Nat) ++ []) (.int .i64 ((rw' false q n).1 : Int)) (wH B (H.length + 3) (H.length + 2) v n (rw' false q n).2 ++ []) := rnum_at tB _ _ 8 r0 (by omega)
  have b0 : (rw' false q n).1 < 2 ^ 8 := nm_lt false q n ((0, 0) : Nat × Nat) 8
  have r1 : Rf n (rw' false q n).2 := r0.nm 8
  have n1 : CallOk Tryz.prog 52 [.ptr (H.length + 3) 0 0, .int .i64 (8 : Int)] (wH B (H.length + 3) (H.length + 2) v n (rw' false q n).2 ++ []) (.int .i64 ((rh' false q n).1 : Int)) (wH B (H.length + 3) (H.length + 2) v n (rh' false q n).2 ++ []) := rnum_at tB _ _ 8 r1 (by omega)
  have b1 : (rh' false q n).1 < 2 ^ 8 := nm_lt false q n (rw' false q n).2 8
  have r2 : Rf n (rh' false q n).2 := r1.nm 8
  simp only [List.append_nil] at n0 n1
  (repeat refine PW.seq ?_); refine PW.rg rfl fun K hK => ?_; simp (maxSteps := 3000000) (disch := omega) only [go_sem, ↓reduceIte, reduceCtorEq, pappend, plen]; refine VCx.call (n0) rfl ?_; simp (maxSteps := 3000000) (disch := omega) only [go_sem, ↓reduceIte, reduceCtorEq, pappend, plen]; refine VCx.call (n1) rfl ?_; simp (maxSteps := 3000000) (disch := omega) only [go_sem, ↓reduceIte, reduceCtorEq, pappend, plen, wH_len, dl1, sq_b01, ↓zcSq, sqz_len, zl, zz1, zz3, wH_z, wH_sz, List.append_nil]; refine hK _ _ ?_; clear hK K
  have n2 : CallOk Tryz.prog 52 [.ptr (H.length + 3) 0 0, .int .i64 (32 : Int)] (wH B (H.length + 3) (H.length + 2) v n (rh' false q n).2 ++ [⟨26, 0, sqc ⟨16 * ((rw' false q n).1 : Int), 16 * ((rh' false q n).1 : Int), 0, 0, false, 0, 0, z64, z64⟩⟩]) (.int .i64 ((rn' false q n).1 : Int)) (wH B (H.length + 3) (H.length + 2) v n (rn' false q n).2 ++ [⟨26, 0, sqc ⟨16 * ((rw' false q n).1 : Int), 16 * ((rh' false q n).1 : Int), 0, 0, false, 0, 0, z64, z64⟩⟩]) := rnum_at tB _ _ 32 r2 (by omega)
  have b2 : (rn' false q n).1 < 2 ^ 32 := nm_lt false q n (rh' false q n).2 32
  have r3 : Rf n (rn' false q n).2 := r2.nm 32
  have n3 : CallOk Tryz.prog 52 [.ptr (H.length + 3) 0 0, .int .i64 (32 : Int)] (wH B (H.length + 3) (H.length + 2) v n (rn' false q n).2 ++ [⟨26, 0, sqc ⟨16 * ((rw' false q n).1 : Int), 16 * ((rh' false q n).1 : Int), 0, 0, false, 0, 0, z64, z64⟩⟩]) (.int .i64 ((rd' false q n).1 : Int)) (wH B (H.length + 3) (H.length + 2) v n (rd' false q n).2 ++ [⟨26, 0, sqc ⟨16 * ((rw' false q n).1 : Int), 16 * ((rh' false q n).1 : Int), 0, 0, false, 0, 0, z64, z64⟩⟩]) := rnum_at tB _ _ 32 r3 (by omega)
  have b3 : (rd' false q n).1 < 2 ^ 32 := nm_lt false q n (rn' false q n).2 32
  have r4 : Rf n (rd' false q n).2 := r3.nm 32
  (repeat refine PW.seq ?_); refine PW.rg rfl fun K hK => ?_; simp (maxSteps := 3000000) (disch := omega) only [go_sem, ↓reduceIte, reduceCtorEq, pappend, plen]; refine VCx.call (n2) rfl ?_; simp (maxSteps := 3000000) (disch := omega) only [go_sem, ↓reduceIte, reduceCtorEq, pappend, plen]; refine VCx.call (n3) rfl ?_; simp (maxSteps := 3000000) (disch := omega) only [go_sem, ↓reduceIte, reduceCtorEq, pappend, plen, wH_z, wH_sz, sqz_len, zl, Nat.reduceAdd, sq_s23]; refine hK _ _ ?_; clear hK K
  have n4 : CallOk Tryz.prog 52 [.ptr (H.length + 3) 0 0, .int .i64 (1 : Int)] (wH B (H.length + 3) (H.length + 2) v n (rd' false q n).2 ++ [⟨26, 0, sqc ⟨16 * ((rw' false q n).1 : Int), 16 * ((rh' false q n).1 : Int), ((rn' false q n).1 : Int), ((rd' false q n).1 : Int), false, 0, 0, z64, z64⟩⟩]) (.int .i64 ((ri' false q n).1 : Int)) (wH B (H.length + 3) (H.length + 2) v n (ri' false q n).2 ++ [⟨26, 0, sqc ⟨16 * ((rw' false q n).1 : Int), 16 * ((rh' false q n).1 : Int), ((rn' false q n).1 : Int), ((rd' false q n).1 : Int), false, 0, 0, z64, z64⟩⟩]) := rnum_at tB _ _ 1 r4 (by omega)
  have b4 : (ri' false q n).1 < 2 ^ 1 := nm_lt false q n (rd' false q n).2 1
  have r5 : Rf n (ri' false q n).2 := r4.nm 1
  (repeat refine PW.seq ?_); refine PW.rg rfl fun K hK => ?_; simp (maxSteps := 3000000) (disch := omega) only [go_sem, ↓reduceIte, reduceCtorEq, pappend, plen]; refine VCx.call (n4) rfl ?_; simp (maxSteps := 3000000) (disch := omega) only [go_sem, ↓reduceIte, reduceCtorEq, pappend, plen, wH_z, wH_sz, sqz_len, zl, beq1, sq_s4]; refine hK _ _ ?_; clear hK K
  have n5 : CallOk Tryz.prog 52 [.ptr (H.length + 3) 0 0, .int .i64 (32 : Int)] (wH B (H.length + 3) (H.length + 2) v n (ri' false q n).2 ++ [⟨26, 0, sqc ⟨16 * ((rw' false q n).1 : Int), 16 * ((rh' false q n).1 : Int), ((rn' false q n).1 : Int), ((rd' false q n).1 : Int), decide ((ri' false q n).1 = 1), 0, 0, z64, z64⟩⟩]) (.int .i64 ((rb' false q n).1 : Int)) (wH B (H.length + 3) (H.length + 2) v n (rb' false q n).2 ++ [⟨26, 0, sqc ⟨16 * ((rw' false q n).1 : Int), 16 * ((rh' false q n).1 : Int), ((rn' false q n).1 : Int), ((rd' false q n).1 : Int), decide ((ri' false q n).1 = 1), 0, 0, z64, z64⟩⟩]) := rnum_at tB _ _ 32 r5 (by omega)
  have b5 : (rb' false q n).1 < 2 ^ 32 := nm_lt false q n (ri' false q n).2 32
  have r6 : Rf n (rb' false q n).2 := r5.nm 32
  have n6 : CallOk Tryz.prog 52 [.ptr (H.length + 3) 0 0, .int .i64 (32 : Int)] (wH B (H.length + 3) (H.length + 2) v n (rb' false q n).2 ++ [⟨26, 0, sqc ⟨16 * ((rw' false q n).1 : Int), 16 * ((rh' false q n).1 : Int), ((rn' false q n).1 : Int), ((rd' false q n).1 : Int), decide ((ri' false q n).1 = 1), 0, 0, z64, z64⟩⟩]) (.int .i64 ((rf' false q n).1 : Int)) (wH B (H.length + 3) (H.length + 2) v n (rf' false q n).2 ++ [⟨26, 0, sqc ⟨16 * ((rw' false q n).1 : Int), 16 * ((rh' false q n).1 : Int), ((rn' false q n).1 : Int), ((rd' false q n).1 : Int), decide ((ri' false q n).1 = 1), 0, 0, z64, z64⟩⟩]) := rnum_at tB _ _ 32 r6 (by omega)
  have b6 : (rf' false q n).1 < 2 ^ 32 := nm_lt false q n (rb' false q n).2 32
  have r7 : Rf n (rf' false q n).2 := r6.nm 32
  (repeat refine PW.seq ?_); refine PW.rg rfl fun K hK => ?_; simp (maxSteps := 3000000) (disch := omega) only [go_sem, ↓reduceIte, reduceCtorEq, pappend, plen]; refine VCx.call (n5) rfl ?_; simp (maxSteps := 3000000) (disch := omega) only [go_sem, ↓reduceIte, reduceCtorEq, pappend, plen]; refine VCx.call (n6) rfl ?_; simp (maxSteps := 3000000) (disch := omega) only [go_sem, ↓reduceIte, reduceCtorEq, pappend, plen, wH_z, wH_sz, sqz_len, zl, sq_s5, sq_s6]; refine hK _ _ ?_; clear hK K
  have la := (ra_b false q n).1
  have le := (re_b false q n).1
  have ea : ra' false q n = rdM false q n dIn (rf' false q n).2 := by unfold ra'; exact Eq.refl _
  have ee : re' false q n = rdM false q n dIt (ra' false q n).2 := by unfold re'; exact Eq.refl _
  have n8 := rmat_ref tB [⟨26, 0, sqc ⟨16 * ((rw' false q n).1 : Int), 16 * ((rh' false q n).1 : Int), ((rn' false q n).1 : Int), ((rd' false q n).1 : Int), decide ((ri' false q n).1 = 1), ((rb' false q n).1 : Int), ((rf' false q n).1 : Int), z64, z64⟩⟩] (rf' false q n).2 r7 dIn dIn_len
  rw [← ea] at n8
  have r8 : Rf n (ra' false q n).2 := by rw [ea]; exact r7.rdM
  have la' : (bs (ra' false q n).1).length = 64 := by rw [length_bs]; exact la
  (repeat refine PW.seq ?_); refine PW.rg rfl fun K hK => ?_; simp (maxSteps := 3000000) (disch := omega) only [go_sem, ↓reduceIte, reduceCtorEq, pappend, plen]; refine VCx.call (din_ref _) rfl ?_; simp (maxSteps := 3000000) (disch := omega) only [go_sem, ↓reduceIte, reduceCtorEq, pappend, plen]; refine VCx.call (n8) rfl ?_; simp (maxSteps := 3000000) (disch := omega) only [go_sem, ↓reduceIte, reduceCtorEq, pappend, plen, wH_z, wH_sz, sqz_len, zl, la', Nat.reduceAdd, sq_s7]; refine hK _ _ ?_; clear hK K
  have n9 := rmat_ref tB [⟨26, 0, sqc ⟨16 * ((rw' false q n).1 : Int), 16 * ((rh' false q n).1 : Int), ((rn' false q n).1 : Int), ((rd' false q n).1 : Int), decide ((ri' false q n).1 = 1), ((rb' false q n).1 : Int), ((rf' false q n).1 : Int), (ra' false q n).1, z64⟩⟩] (ra' false q n).2 r8 dIt dIt_len
  rw [← ee] at n9
  have r9 : Rf n (re' false q n).2 := by rw [ee]; exact r8.rdM
  have le' : (bs (re' false q n).1).length = 64 := by rw [length_bs]; exact le
  (repeat refine PW.seq ?_); refine PW.rg rfl fun K hK => ?_; simp (maxSteps := 3000000) (disch := omega) only [go_sem, ↓reduceIte, reduceCtorEq, pappend, plen]; refine VCx.call (dit_ref _) rfl ?_; simp (maxSteps := 3000000) (disch := omega) only [go_sem, ↓reduceIte, reduceCtorEq, pappend, plen]; refine VCx.call (n9) rfl ?_; simp (maxSteps := 3000000) (disch := omega) only [go_sem, ↓reduceIte, reduceCtorEq, pappend, plen, wH_z, wH_sz, sqz_len, zl, la, le', Nat.reduceAdd, sq_s71]; refine hK _ _ ?_; clear hK K
  obtain ⟨s, hs⟩ : ∃ s, s = rdS false q n := ⟨_, rfl⟩
  have hso : SqOk s := by rw [hs]; exact rdS_ok _ _ _
  have hsx : rdS false q n = ⟨16 * ((rw' false q n).1 : Int), 16 * ((rh' false q n).1 : Int), ((rn' false q n).1 : Int), ((rd' false q n).1 : Int), decide ((ri' false q n).1 = 1), ((rb' false q n).1 : Int), ((rf' false q n).1 : Int), (ra' false q n).1, (re' false q n).1⟩ := by unfold rdS; exact Eq.refl _
  rw [← hsx, ← hs]
  rw [← hs] at hr
  have rz := r9.e
  generalize (re' false q n).2 = z at *
  have l135 : (sqc s).length = 135 := sqc_len _ ⟨hso.ia, hso.ie⟩
  have t135 : List.take 135 (sqc s) = sqc s := List.take_of_length_le (by omega)
  have d135 : List.drop 135 (sqc s) = [] := List.drop_of_length_le (by omega)
  have po := fun K => puts_ref s K hso
  have be := sameunit_ok t (putS s).1 q (putS s).2.1 f false
  (repeat refine PW.seq ?_); refine PW.rg rfl fun K hK => ?_; simp (maxSteps := 3000000) (disch := omega) only [go_sem, ↓reduceIte, reduceCtorEq, pappend, plen, wH_z, l135, t135]; refine VCx.call (po _) rfl ?_; simp (maxSteps := 3000000) (disch := omega) only [go_sem, ↓reduceIte, reduceCtorEq, pappend, plen, wH_len, List.length_append, wH_n, wH_s, uv]; refine hK _ _ ?_; clear hK K
  have hT : ∀ K, wH B (H.length + 3) (H.length + 2) v n z ++ K = H ++ (⟨31, 0, [.int .i64 t, .slice (bs q) q.length f]⟩ :: ⟨26, 0, sqc zSq⟩ :: rB q v :: rR (H.length + 2) v n z.1 :: K) := fun K => by
    unfold wH
    rw [hB, aps, List.append_assoc]; rfl
  refine PW.keep [1, 2, 5, 6, 7] ?_
  suffices hfail : (zSq, 3) = r → PW Tryz.prog _ _ [(2, .ptr (H.length + 1) 0 0), (65, .bool true)] (H ++ (⟨31, 0, [.int .i64 t, .slice (bs q) q.length f]⟩ :: ⟨26, 0, sqc zSq⟩ :: rB q v :: rR (H.length + 2) v n z.1 :: [⟨26, 0, sqc s⟩, ⟨31, 0, [.int .i64 (putS s).1, .slice (bs (putS s).2.1) (putS s).2.1.length false]⟩])) _ by
    cases hv : vseq s with
    | false =>
      rw [if_neg (fun h => by rw [hv] at h; exact absurd h.2.1 (by decide))] at hr
      have hp5 : (putS s).2.2 = 1 := by unfold putS; rw [if_neg (by rw [hv]; decide)]
      have b5 : ((putS s).2.2 != 0) = true := by rw [hp5]; rfl
      (repeat refine PW.seq ?_); refine PW.rg rfl fun K hK => ?_; simp (maxSteps := 3000000) (disch := omega) only [go_sem, ↓reduceIte, reduceCtorEq, pappend, plen, b5]; refine hK _ _ ?_; clear hK K
      exact PW.at [2, 65] (hfail hr) rfl (hT _)
    | true =>
      have hp5 : (putS s).2.2 = 0 := by unfold putS; rw [if_pos hv]
      have hp3 : (putS s).1 = 179 := by unfold putS; rw [if_pos hv]
      have hp4 : (putS s).2.1 = pk (sbits s ++ [true]) := by unfold putS; rw [if_pos hv]
      have b5 : ((putS s).2.2 != 0) = false := by rw [hp5]; rfl
      generalize (putS s).2.1 = P at *
      by_cases he : P = q
      rotate_left
      · rw [if_neg (fun h => he (by rw [hp4]; exact h.2.2))] at hr
        rw [show (t == (putS s).1 && q == P) = false by simp [ht, hp3]; exact fun e => he e.symm] at be
        (repeat refine PW.seq ?_); refine PW.rg rfl fun K hK => ?_; simp (maxSteps := 3000000) (disch := omega) only [go_sem, ↓reduceIte, reduceCtorEq, pappend, plen, b5, wH_n, g0]
        refine VCx.call (be _) rfl ?_; simp (maxSteps := 3000000) (disch := omega) only [go_sem, ↓reduceIte, reduceCtorEq, pappend, plen]; refine hK _ _ ?_; clear hK K
        exact PW.at [2, 65] (hfail hr) rfl (hT _)
      · rw [if_pos ⟨rz, hv, by rw [← hp4]; exact he⟩] at hr
        rw [show (t == (putS s).1 && q == P) = true by simp [ht, hp3, he]] at be
        (repeat refine PW.seq ?_); refine PW.rg rfl fun K hK => ?_; simp (maxSteps := 3000000) (disch := omega) only [go_sem, ↓reduceIte, reduceCtorEq, pappend, plen, b5, wH_n, g0]
        refine VCx.call (be _) rfl ?_; simp (maxSteps := 3000000) (disch := omega) only [go_sem, ↓reduceIte, reduceCtorEq, pappend, plen]; refine hK _ _ ?_; clear hK K
        (repeat refine PW.seq ?_); refine PW.cond (t := _) rfl (fun h => ?_) (fun h => ?_)
        · cases h
        refine PW.skip ?_
        refine PW.eq rfl (hT _) ?_
        refine PW.at [2, 6] (F1 := [(2, .ptr (H.length + 1) 0 0), (6, .ptr (H.length + 4) 0 0)]) ?_ (by rw [← hBl]; rfl) rfl
        (repeat refine PW.seq ?_); refine PW.rg rfl fun K hK => ?_; simp (maxSteps := 3000000) (disch := omega) only [go_sem, ↓reduceIte, reduceCtorEq, pappend, plen, apn, l135, t135, zz1, zz3, d135, List.append_nil]; refine hK _ _ ?_; clear hK K
        refine PW.ret ⟨rvTS (s, 0), by simp (maxSteps := 3000000) (disch := omega) only [go_sem, ↓reduceIte, reduceCtorEq, pappend, plen, presults, presult, List.mapM_cons, List.mapM_nil, Option.pure_def, Option.bind_eq_bind, Option.bind_some, Array.toList, l135, t135, rvTS], ?_⟩
        rw [← hr]
        exact Fin.base (.id (rvTS_sc _ _))
  intro hr
  (repeat refine PW.seq ?_); refine PW.cond (t := _) rfl (fun h => ?_) (fun h => ?_)
  rotate_left
  · cases h
  (repeat refine PW.seq ?_); refine PW.rg rfl fun K hK => ?_; simp (maxSteps := 3000000) (disch := omega) only [go_sem, ↓reduceIte, reduceCtorEq, pappend, plen, ↓zcSq, zz1, zz2, zz3]; refine hK _ _ ?_; clear hK K
  refine PW.ret ⟨rvTS (zSq, 3), by simp (maxSteps := 3000000) (disch := omega) only [go_sem, ↓reduceIte, reduceCtorEq, pappend, plen, presults, presult, List.mapM_cons, List.mapM_nil, Option.pure_def, Option.bind_eq_bind, Option.bind_some, Array.toList, zz1, zz2, rvTS], ?_⟩
  rw [← hr]
  exact Fin.base (.id (rvTS_sc _ _))

set_option maxHeartbeats 4000000 in
theorem takeG_ref (t : Int) (q : List UInt8) (f : Bool) (H : Heap) (hq : q.length ≤ 100000000) : CallOk Tryz.prog 17 [.agg [.int .i64 t, .slice (bs q) q.length f]] H (rvTG (takeG t q)) H := by
  generalize hr : takeG t q = r
  unfold takeG at hr
  refine CallOk.body (F0 := [(0, .agg [.int .i64 t, .slice (bs q) q.length f])]) Tryz.func17 rfl Tryz.ntmps17 Tryz.results17 rfl (by kernel_rfl) rfl ?_
  (repeat refine PW.seq ?_); refine PW.rg rfl fun K hK => ?_; simp (maxSteps := 3000000) (disch := omega) only [go_sem, ↓reduceIte, reduceCtorEq, pappend, plen]; refine hK _ _ ?_; clear hK K
  by_cases hb : q.length = 0 ∨ lastB q = 0
  · rw [if_neg (fun h => by rcases hb with hb | hb; exact h.2.1 hb; exact h.2.2.1 hb)] at hr
    have nr := fun K => open_bad q f K hq hb
    (repeat refine PW.seq ?_); refine PW.rg rfl fun K hK => ?_; simp (maxSteps := 3000000) (disch := omega) only [go_sem, ↓reduceIte, reduceCtorEq, pappend, plen]; refine VCx.call (nr _) rfl ?_; simp (maxSteps := 3000000) (disch := omega) only [go_sem, ↓reduceIte, reduceCtorEq, pappend, plen]; refine hK _ _ ?_; clear hK K
    (repeat refine PW.seq ?_); refine PW.rg rfl fun K hK => ?_; simp (maxSteps := 3000000) (disch := omega) only [go_sem, ↓reduceIte, reduceCtorEq, pappend, plen]; refine hK _ _ ?_; clear hK K
    (repeat refine PW.seq ?_); refine PW.cond (t := _) rfl (fun h => ?_) (fun h => ?_)
    rotate_left
    · cases h
    (repeat refine PW.seq ?_); refine PW.rg rfl fun K hK => ?_; simp (maxSteps := 3000000) (disch := omega) only [go_sem, ↓reduceIte, reduceCtorEq, pappend, plen]; refine hK _ _ ?_; clear hK K
    refine PW.ret ⟨rvTG (false, false, 0, 3), by simp (maxSteps := 3000000) (disch := omega) only [go_sem, ↓reduceIte, reduceCtorEq, pappend, plen, presults, presult, List.mapM_cons, List.mapM_nil, Option.pure_def, Option.bind_eq_bind, Option.bind_some, Array.toList, rvTG], ?_⟩
    rw [← hr]
    exact Fin.base (.id (rvTG_sc _ _))
  have hq0 : q.length ≠ 0 := fun h => hb (.inl h)
  have hl0 : lastB q ≠ 0 := fun h => hb (.inr h)
  obtain ⟨nb1, nb2, _⟩ := nb_one q hq0 hl0
  have nr := fun K => open_ok q f K hq hq0 hl0
  (repeat refine PW.seq ?_); refine PW.rg rfl fun K hK => ?_; simp (maxSteps := 3000000) (disch := omega) only [go_sem, ↓reduceIte, reduceCtorEq, pappend, plen]; refine VCx.call (nr _) rfl ?_; simp (maxSteps := 3000000) (disch := omega) only [go_sem, ↓reduceIte, reduceCtorEq, pappend, plen]; refine hK _ _ ?_; clear hK K
  by_cases ht : t = 184
  rotate_left
  · rw [if_neg (fun h => ht h.1)] at hr
    have bt : (t != 184) = true := by simp [ht]
    (repeat refine PW.seq ?_); refine PW.rg rfl fun K hK => ?_; simp (maxSteps := 3000000) (disch := omega) only [go_sem, ↓reduceIte, reduceCtorEq, pappend, plen, bt]; refine hK _ _ ?_; clear hK K
    (repeat refine PW.seq ?_); refine PW.cond (t := _) rfl (fun h => ?_) (fun h => ?_)
    rotate_left
    · cases h
    (repeat refine PW.seq ?_); refine PW.rg rfl fun K hK => ?_; simp (maxSteps := 3000000) (disch := omega) only [go_sem, ↓reduceIte, reduceCtorEq, pappend, plen]; refine hK _ _ ?_; clear hK K
    refine PW.ret ⟨rvTG (false, false, 0, 3), by simp (maxSteps := 3000000) (disch := omega) only [go_sem, ↓reduceIte, reduceCtorEq, pappend, plen, presults, presult, List.mapM_cons, List.mapM_nil, Option.pure_def, Option.bind_eq_bind, Option.bind_some, Array.toList, rvTG], ?_⟩
    rw [← hr]
    exact Fin.base (.id (rvTG_sc _ _))
  have bt : (t != 184) = false := by simp [ht]
  have lf := rleft_ref (H.length + 3) (H.length + 2) (8 * q.length) q (nb q) 0 (H ++ [⟨31, 0, [.int .i64 t, .slice (bs q) q.length f]⟩, ⟨28, 0, [.bool false, .bool false, .int .i64 0]⟩, rB q (8 * q.length), rR (H.length + 2) (8 * q.length) (nb q) 0]) (hp3 _ _ _ _ _ _) (hp2 _ _ _ _ _) (Nat.zero_le _) (by omega)
  rw [Nat.sub_zero] at lf
  (repeat refine PW.seq ?_); refine PW.rg rfl fun K hK => ?_; simp (maxSteps := 3000000) (disch := omega) only [go_sem, ↓reduceIte, reduceCtorEq, pappend, plen, bt]
  refine VCx.call (lf) rfl ?_; simp (maxSteps := 3000000) (disch := omega) only [go_sem, ↓reduceIte, reduceCtorEq, pappend, plen]
  by_cases h26 : nb q = 26
  rotate_left
  · have d26 : ((nb q : Int) != 26) = true := by simp; omega
    rw [if_neg (fun h => h26 h.2.2.2)] at hr
    refine hK _ _ ?_; clear hK K
    (repeat refine PW.seq ?_); refine PW.cond (t := _) rfl (fun h => ?_) (fun h => ?_)
    rotate_left
    · rw [d26] at h; cases h
    (repeat refine PW.seq ?_); refine PW.rg rfl fun K hK => ?_; simp (maxSteps := 3000000) (disch := omega) only [go_sem, ↓reduceIte, reduceCtorEq, pappend, plen]; refine hK _ _ ?_; clear hK K
    refine PW.ret ⟨rvTG (false, false, 0, 3), by simp (maxSteps := 3000000) (disch := omega) only [go_sem, ↓reduceIte, reduceCtorEq, pappend, plen, presults, presult, List.mapM_cons, List.mapM_nil, Option.pure_def, Option.bind_eq_bind, Option.bind_some, Array.toList, rvTG], ?_⟩
    rw [← hr]
    exact Fin.base (.id (rvTG_sc _ _))
  have d26 : ((nb q : Int) != 26) = false := by rw [h26]; rfl
  rw [if_pos ⟨ht, hq0, hl0, h26⟩] at hr
  refine hK _ _ ?_; clear hK K
  (repeat refine PW.seq ?_); refine PW.cond (t := _) rfl (fun h => ?_) (fun h => ?_)
  · rw [d26] at h; cases h
  refine PW.skip ?_
  rw [h26] at lf ⊢
  have hnl : 26 ≤ 8 * q.length := by omega
  generalize hvv : 8 * q.length = v at *
  obtain ⟨B, hB⟩ : ∃ B, B = H ++ [⟨31, 0, [.int .i64 t, .slice (bs q) q.length f]⟩, ⟨28, 0, [.bool false, .bool false, .int .i64 0]⟩, rB q v, rR (H.length + 2) v 26 0] := ⟨_, rfl⟩
  have hBl : B.length = H.length + 4 := by rw [hB]; simp
  have tB : Wk B (H.length + 3) (H.length + 2) v q 26 := ⟨by omega, by rw [hB]; exact hp2 _ _ _ _ _, by omega, by omega, hq⟩
  have hB0 : B = wH B (H.length + 3) (H.length + 2) v 26 (0, 0) := by
    unfold wH
    exact (set_self (by rw [hB]; simp [apn])).symm
  refine PW.at [2, 4] (F1 := [(2, .ptr (H.length + 1) 0 0), (4, .ptr (H.length + 3) 0 0)]) (H1 := wH B (H.length + 3) (H.length + 2) v 26 (0, 0)) ?_ rfl (by rw [← hB0, hB])
  have n1 := rnum_at tB [] (0, 0) 1 ⟨Nat.zero_le _, rfl⟩ (by omega)
  have n2 := rnum_at tB [] (1, 0) 1 ⟨by decide, rfl⟩ (by omega)
  have n3 := rnum_at tB [] (2, 0) 24 ⟨by decide, rfl⟩ (by omega)
  rw [nm_in (by omega)] at n1 n2 n3
  simp only [List.append_nil] at n1 n2 n3
  have hT : wH B (H.length + 3) (H.length + 2) v 26 (2 + 24, 0) = H ++ [⟨31, 0, [.int .i64 t, .slice (bs q) q.length f]⟩, ⟨28, 0, [.bool false, .bool false, .int .i64 0]⟩, rB q v, rR (H.length + 2) v 26 (2 + 24)] := by
    unfold wH
    rw [hB, aps]; rfl
  rw [hT] at n3
  (repeat refine PW.seq ?_); refine PW.rg rfl fun K hK => ?_; simp (maxSteps := 3000000) (disch := omega) only [go_sem, ↓reduceIte, reduceCtorEq, pappend, plen]; refine VCx.call (n1) rfl ?_; simp (maxSteps := 3000000) (disch := omega) only [go_sem, ↓reduceIte, reduceCtorEq, pappend, plen, beq1]; refine VCx.call (n2) rfl ?_; simp (maxSteps := 3000000) (disch := omega) only [go_sem, ↓reduceIte, reduceCtorEq, pappend, plen, beq1]; refine VCx.call (n3) rfl ?_; simp (maxSteps := 3000000) (disch := omega) only [go_sem, ↓reduceIte, reduceCtorEq, pappend, plen]; refine hK _ _ ?_; clear hK K
  refine PW.ret ⟨rvTG (decide (vl q 0 1 = 1), decide (vl q 1 1 = 1), (vl q 2 24 : Int), 0), by simp (maxSteps := 3000000) (disch := omega) only [go_sem, ↓reduceIte, reduceCtorEq, pappend, plen, presults, presult, List.mapM_cons, List.mapM_nil, Option.pure_def, Option.bind_eq_bind, Option.bind_some, Array.toList, rvTG], ?_⟩
  rw [← hr]
  exact Fin.base (.id (rvTG_sc _ _))

end Go.Proofs.YtnnkohejhnjflaaGreatDoor.Sc

namespace Go.Proofs.YtnnkohejhnjflaaGreatDoor.Sc
set_option linter.all false
set_option linter.unusedVariables false
set_option linter.unusedSimpArgs false
open Pm Ty S3 Go.RowKit

theorem fmt_good {t : Int} {p : List UInt8} (ht : 1 ≤ t ∧ t ≤ 255) (hp : p.length = 0 ∨ lastB p ≠ 0) : (fmtR t p).2 = 0 := by
  have he : ends0 p = false := by
    unfold ends0
    rcases hp with hp | hp
    · simp [hp]
    · have : (byt p (p.length - 1) == 0) = false := by
        unfold lastB at hp
        unfold byt
        simp
        intro h
        apply hp
        rw [List.getD, h]
      rw [this, Bool.and_false]
  have hs : escR p = (esc p, 0) := by unfold escR; rw [he]; simp
  unfold fmtR
  rw [if_neg (by omega), hs, if_pos rfl]
theorem fmt_l {t : Int} {p : List UInt8} (h : (fmtR t p).2 = 0) : (fmtR t p).1 = [0, 0, 1, UInt8.ofNat t.toNat] ++ (escR p).1 ∧ 1 ≤ t ∧ t ≤ 255 ∧ (escR p).2 = 0 := by
  unfold fmtR at h ⊢
  split at h
  · cases h
  · rename_i h1
    split at h
    · rename_i h2
      rw [if_neg h1, if_pos h2]
      exact ⟨rfl, by omega, by omega, h2⟩
    · rename_i h2
      exact absurd h h2
theorem fmt_bd (t : Int) (p : List UInt8) : (fmtR t p).1.length ≤ 4 + 2 * p.length := by
  have := escR_len p
  unfold fmtR
  split
  · simp
  · split
    · simp; omega
    · simp
theorem fmt_pos {t : Int} {p : List UInt8} (h : (fmtR t p).2 = 0) : 4 ≤ (fmtR t p).1.length := by
  rw [(fmt_l h).1]; simp
theorem fmt_er {t : Int} {p : List UInt8} (h : (fmtR t p).2 ≠ 0) : (fmtR t p).1 = [] := by
  unfold fmtR at h ⊢
  split
  · rfl
  · rename_i h1
    split
    · rename_i h2
      rw [if_neg h1, if_pos h2] at h
      exact absurd rfl h
    · rfl

/-- The version of a unit's bytes. -/
def fv (e : List UInt8) : Nat := if e.length = 0 then 1 else 4 + e.length
theorem fv_le (e : List UInt8) : fv e ≤ 4 + e.length := by unfold fv; split <;> omega
set_option maxRecDepth 100000 in
theorem format_m (t : Int) (p : List UInt8) (full : Bool) (H : Heap) (hl : p.length ≤ 1000000) (h0 : (fmtR t p).2 = 0) :
    CallOk Tryz.prog 95 [.agg [.int .i64 t, .slice (bs p) p.length full]] H (.tup [.msl (H.length + 1) (fv (escR p).1) 0 (fmtR t p).1.length 1 true, .int .i64 0])
      (H ++ [⟨31, 0, [.int .i64 t, .slice (bs p) p.length full]⟩, ⟨5, fv (escR p).1, bs (fmtR t p).1⟩]) := by
  obtain ⟨f1, f2, f3, f4⟩ := fmt_l h0
  have eo := fun K => escape_ok p full K hl
  have hlen := escR_len p
  rw [f4] at eo
  unfold bv at eo
  rw [f1]
  generalize (escR p).1 = e at *
  have d1 : decide (t < 1) = false := decide_eq_false (by omega)
  have d2 : decide (255 < t) = false := decide_eq_false (by omega)
  have te : List.take e.length (bs e) = bs e := List.take_of_length_le (by rw [length_bs]; omega)
  refine CallOk.body (F0 := [(0, .agg [.int .i64 t, .slice (bs p) p.length full])]) Tryz.func95 rfl Tryz.ntmps95 Tryz.results95 rfl (by kernel_rfl) rfl ?_
  (repeat refine PW.seq ?_); refine PW.rg rfl fun K hK => ?_; simp (maxSteps := 3000000) (disch := omega) only [go_sem, ↓reduceIte, reduceCtorEq, pappend, plen]; refine hK _ _ ?_; clear hK K
  (repeat refine PW.seq ?_); refine PW.rg rfl fun K hK => ?_; simp (maxSteps := 3000000) (disch := omega) only [go_sem, ↓reduceIte, reduceCtorEq, pappend, plen, d1, d2]; refine hK _ _ ?_; clear hK K
  (repeat refine PW.seq ?_); refine PW.cond (t := _) rfl (fun h => ?_) (fun h => ?_)
  · cases h
  refine PW.skip ?_
  (repeat refine PW.seq ?_); refine PW.rg rfl fun K hK => ?_; simp (maxSteps := 3000000) (disch := omega) only [go_sem, ↓reduceIte, reduceCtorEq, pappend, plen]; refine VCx.call (eo _) rfl ?_; simp (maxSteps := 3000000) (disch := omega) only [go_sem, ↓reduceIte, reduceCtorEq, pappend, plen]; refine hK _ _ ?_; clear hK K
  (repeat refine PW.seq ?_); refine PW.rg rfl fun K hK => ?_; simp (maxSteps := 3000000) (disch := omega) only [go_sem, ↓reduceIte, reduceCtorEq, pappend, plen]; refine hK _ _ ?_; clear hK K
  (repeat refine PW.seq ?_); refine PW.cond (t := _) rfl (fun h => ?_) (fun h => ?_)
  · cases h
  refine PW.skip ?_
  (repeat refine PW.seq ?_)
  refine PW.view (Vs.place 5) ?_
  refine PW.eq rfl (show _ = H ++ [⟨31, 0, [.int .i64 t, .slice (bs p) p.length full]⟩, ⟨5, 0, []⟩] from List.append_assoc _ _ _) ?_
  (repeat refine PW.seq ?_); refine PW.seqi [H.length + 1] [(26, 0)] rfl fun K hK => ?_
  by_cases he : e.length = 0
  · have hz : e = [] := List.eq_nil_of_length_eq_zero he
    subst hz
    simp (maxSteps := 3000000) (disch := omega) only [go_sem, ↓reduceIte, reduceCtorEq, pappend, plen, length_bs]
    refine hK _ _ ?_; clear hK K
    refine PW.ret ⟨.tup [.msl (H.length + 1) 1 0 4 1 true, .int .i64 0], by simp (maxSteps := 3000000) (disch := omega) only [go_sem, ↓reduceIte, reduceCtorEq, pappend, plen, presults, presult, List.mapM_cons, List.mapM_nil, Option.pure_def, Option.bind_eq_bind, Option.bind_some, Array.toList], ?_⟩
    refine .inl ⟨rfl, ?_⟩
    simp [fv, bs]; omega
  · simp (maxSteps := 3000000) (disch := omega) only [go_sem, ↓reduceIte, reduceCtorEq, pappend, plen, length_bs, he, te]
    refine hK _ _ ?_; clear hK K
    refine PW.ret ⟨.tup [.msl (H.length + 1) (e.length + 1 + 1 + 1 + 1) 0 (4 + e.length) 1 true, .int .i64 0], by simp (maxSteps := 3000000) (disch := omega) only [go_sem, ↓reduceIte, reduceCtorEq, pappend, plen, presults, presult, List.mapM_cons, List.mapM_nil, Option.pure_def, Option.bind_eq_bind, Option.bind_some, Array.toList], ?_⟩
    refine .inl ⟨?_, ?_⟩
    · simp [fv, he]; omega
    · simp [fv, he, bs]; omega

/-! ### a picture's user data and slices -/
def fU (u : List UInt8) : List UInt8 := (fmtR 178 (u ++ [128])).1
theorem fU_ok (u : List UInt8) : (fmtR 178 (u ++ [128])).2 = 0 := fmt_good (by decide) (.inr (by
  unfold lastB
  rw [List.length_append]
  simp))
theorem fU_bd (u : List UInt8) : 4 ≤ (fU u).length ∧ (fU u).length ≤ 2 * u.length + 6 := by
  have h1 := fmt_pos (fU_ok u)
  have h2 := fmt_bd 178 (u ++ [128])
  rw [List.length_append, List.length_singleton] at h2
  unfold fU
  omega
abbrev BV := List UInt8 × Nat
def more (x : BV) (e : List UInt8) : BV := (x.1 ++ e, (x.1 ++ e).length)
def apU : BV → List (List UInt8) → BV × Int
  | x, [] => (x, 0)
  | x, u :: r => if 256 < u.length then (x, 5) else apU (more x (fU u)) r
def apS : BV → List (Int × List UInt8) → BV × Int
  | x, [] => (x, 0)
  | x, u :: r => if 1 ≤ u.1 ∧ u.1 < 5 then (if (fmtR u.1 u.2).2 = 0 then apS (more x (fmtR u.1 u.2).1) r else (x, (fmtR u.1 u.2).2)) else (x, 1)
def apP (x : BV) (U : List (List UInt8)) (us : List (Int × List UInt8)) : BV × Int := if (apU x U).2 = 0 then apS (apU x U).1 us else apU x U
def bB (x : BV) : Blk := ⟨5, x.2, bs x.1⟩
def bS (id : Nat) (x : BV) : PV := .msl id x.2 0 x.1.length 1 true
def rvA (id : Nat) (r : BV × Int) : PV := if r.2 = 0 then .tup [bS id r.1, .int .i64 0] else .tup [.slice [] 0 true, .int .i64 r.2]
theorem usl_ok (t : Int) (H : Heap) : CallOk Tryz.prog 84 [.int .i64 t] H (.bool (decide (1 ≤ t) && decide (t < 5))) H := by
  refine CallOk.body (F0 := [(0, .int .i64 t)]) Tryz.func84 rfl Tryz.ntmps84 Tryz.results84 rfl (by kernel_rfl) rfl ?_
  (repeat' (first | refine PW.seq ?_ | refine PW.skip ?_ | refine PW.block ?_ | (refine PW.rg rfl fun K hK => ?_; simp (maxSteps := 3000000) (disch := omega) only [go_sem, ↓reduceIte, reduceCtorEq, pappend, plen]) | (refine PW.draw mix (by kernel_rfl) fun K hK => ?_; simp (maxSteps := 3000000) (disch := omega) only [go_sem, ↓reduceIte, reduceCtorEq, pappend, plen]) | (refine PW.drawg mix (by kernel_rfl) fun K hK => ?_; simp (maxSteps := 3000000) (disch := omega) only [go_sem, ↓reduceIte, reduceCtorEq, pappend, plen]) | (refine PW.drawt [] [] mix (by kernel_rfl) fun K hK => ?_; simp (maxSteps := 3000000) (disch := omega) only [go_sem, ↓reduceIte, reduceCtorEq, pappend, plen]) | ((first | refine VO_cond (fun h => ?_) (fun h => ?_) | refine VOd_cond (fun h => ?_) (fun h => ?_) | refine VOg_cond (fun h => ?_) (fun h => ?_) | refine VOh_cond (fun h => ?_) (fun h => ?_) | refine VOi_cond (fun h => ?_) (fun h => ?_) | refine And.intro (fun h => ?_) (fun h => ?_)) <;> (try simp only [Bool.not_eq_true', Bool.not_eq_false', decide_eq_true_eq, decide_eq_false_iff_not] at h) <;> simp (maxSteps := 3000000) (disch := omega) only [go_sem, ↓reduceIte, reduceCtorEq, pappend, plen, h]) | (refine hK _ _ ?_; clear hK K) | (refine PW.cond (t := _) rfl (fun h => ?_) (fun h => ?_) <;> (try (cases h; done)) <;> (try simp only [Bool.not_eq_true', Bool.not_eq_false', decide_eq_true_eq, decide_eq_false_iff_not] at h))))
  all_goals ((refine PW.ret ⟨_, rfl, ?_⟩; first | refine .inl ⟨?_, rfl⟩ | refine Fin.base (.id' ?_ (.bool _)) | refine Fin.base (.id' ?_ (.int _ _))); (simp_all [slot, Nat.beq] <;> first | rfl | omega | (rw [Bool.eq_iff_iff]; simp; done) | (rw [Bool.eq_iff_iff]; simp; omega)))
/-- What appendPicture has in memory. -/
def aH (H : Heap) (id : Nat) (x : BV) (C : List PV) : Heap := H.set id (bB x) ++ [⟨62, 0, C⟩]
theorem aH_0 (H : Heap) (id : Nat) (x : BV) (C : List PV) (K : Heap) : (aH H id x C ++ K)[H.length]? = some ⟨62, 0, C⟩ := by
  unfold aH
  rw [List.append_assoc, List.getElem?_append_right (by simp)]; simp
theorem aH_z (H : Heap) (id : Nat) (x : BV) (C : List PV) : (aH H id x C)[H.length]? = some ⟨62, 0, C⟩ := by
  have := aH_0 H id x C []
  rwa [List.append_nil] at this
theorem aH_id {H : Heap} {id : Nat} (x : BV) (C : List PV) (h : id < H.length) : (aH H id x C)[id]? = some (bB x) := by
  unfold aH
  rw [List.getElem?_append_left (by simpa using h)]; simp [h]
theorem aH_s {H : Heap} {id : Nat} (x y : BV) (C : List PV) (h : id < H.length) : (aH H id x C).set id (bB y) = aH H id y C := by
  unfold aH
  rw [List.set_append_left _ _ (by simpa using h), List.set_set]
theorem aH_l (H : Heap) (id : Nat) (x : BV) (C : List PV) : (aH H id x C).length = H.length + 1 := by simp [aH]
theorem aH_1 (H : Heap) (id : Nat) (x : BV) (C : List PV) (b : Blk) (K : Heap) : (aH H id x C ++ b :: K)[H.length + 1]? = some b := by
  have := hp0 (aH H id x C) K b
  rwa [aH_l] at this
theorem aH_s1 (H : Heap) (id : Nat) (x : BV) (C : List PV) (b X : Blk) (K : Heap) : (aH H id x C ++ b :: K).set (H.length + 1) X = aH H id x C ++ X :: K := by
  have := hs0 (aH H id x C) K b X
  rwa [aH_l] at this
theorem aH_sc {H : Heap} {id : Nat} {x : BV} {p : Pi} {U : List (List UInt8)} {us : List (Int × List UInt8)} (h : HSc H) : HSc (aH H id x (cdc p U us)) := hscW (fun b hb y hy => by
  simp only [List.mem_cons, List.not_mem_nil, or_false] at hb
  subst hb
  exact cdc_sc _ _ _ _ y hy) (HSc.set h (bs_scoped _ _))

theorem usr_at (U : List (List UInt8)) (k : Nat) (hk : k < U.length) : (U.flatMap usr1)[k]? = some (.slice (bs U[k]) U[k].length false) := by
  have := flat_get usr1 1 U k 0 hk (fun _ _ => rfl) (by omega)
  rwa [Nat.mul_one, Nat.add_zero] at this
theorem usr_l (U : List (List UInt8)) : (U.flatMap usr1).length = U.length := by
  rw [flat_len usr1 1 U fun _ _ => rfl, Nat.mul_one]

set_option maxHeartbeats 8000000 in
set_option maxRecDepth 100000 in
theorem app_ok (id : Nat) (x : BV) (p : Pi) (U : List (List UInt8)) (us : List (Int × List UInt8)) (H : Heap) (hid : H[id]? = some (bB x)) (hx1 : x.2 ≤ x.1.length) (hx2 : x.1.length ≤ 1000000) (hU : U.length ≤ 10000) (hu : us.length ≤ 10000) (hup : ∀ u ∈ us, u.2.length ≤ 1000000) :
    CallOk Tryz.prog 96 [bS id x, .agg (cdc p U us)] H (rvA id (apP x U us)) (H.set id (bB (apP x U us).1)) := by
  have hi := (List.getElem?_eq_some_iff.1 hid).1
  have hself : H.set id (bB x) = H := set_self hid
  have fin0 : ∀ (y : BV) (e : Int) (K : Heap), e ≠ 0 → Fin H (rvA id (y, e)) (H.set id (bB y)) (.tup [.slice [] 0 true, .int .i64 e]) (aH H id y (cdc p U us) ++ K) := fun y e K he => by
    unfold rvA aH
    rw [if_neg he, List.append_assoc]
    exact Fin.cut rfl (by simp) (fun h => HSc.set h (bs_scoped _ _)) (.id (.tup (all_scoped fun z hz => by
      simp only [List.mem_cons, List.not_mem_nil, or_false] at hz
      rcases hz with rfl | rfl
      · exact sl_scoped (fun w hw => by cases hw)
      · exact .int _ _)))
  refine CallOk.body (F0 := [(0, bS id x), (1, .agg (cdc p U us))]) Tryz.func96 rfl Tryz.ntmps96 Tryz.results96 rfl (by kernel_rfl) rfl ?_
  have c1 := cdc_cell p U us
  have c2 := cdc_len p U us
  have c6 : (cdc p U us)[6]? = some (usr U) := rfl
  have c7 := cdc_7 p U us
  have ul := usr_l U
  (repeat refine PW.seq ?_); refine PW.rg rfl fun K hK => ?_; simp (maxSteps := 3000000) (disch := omega) only [go_sem, ↓reduceIte, reduceCtorEq, pappend, plen, c1]; refine hK _ _ ?_; clear hK K
  refine PW.at [0, 3] (F1 := [(0, bS id x), (3, .ptr H.length 0 0)]) (H1 := aH H id x (cdc p U us)) ?_ rfl (by unfold aH; rw [hself])
  (repeat refine PW.seq ?_); refine PW.rg rfl fun K hK => ?_; simp (maxSteps := 3000000) (disch := omega) only [go_sem, ↓reduceIte, reduceCtorEq, pappend, plen, aH_z, c2, c6, usr]; refine hK _ _ ?_; clear hK K
  (repeat refine PW.seq ?_); refine PW.block (PW.loop ?_)
  suffices hl1 : ∀ (k : Nat) (y : BV), k ≤ U.length → y.2 ≤ y.1.length → y.1.length ≤ 1000000 + k * 1000 → apU x U = apU y (U.drop k) → PL Tryz.prog _ _ [(0, bS id y), (3, .ptr H.length 0 0), (16, .slice (U.flatMap usr1) U.length false), (17, .int .i64 (U.length : Int)), (18, .int .i64 (k : Int))] (aH H id y (cdc p U us)) _ by
    exact PL.at [0, 3, 16, 17, 18] (hl1 0 x (by omega) hx1 (by omega) rfl) rfl rfl
  intro k y hk hy1 hy2 hf
  induction hd : U.length - k using Nat.strongRecOn generalizing k y with
  | _ d ih =>
    refine PL.round ?_; (repeat refine PW.seq ?_); refine PW.rg rfl fun K hK => ?_; simp (maxSteps := 3000000) (disch := omega) only [go_sem, ↓reduceIte, reduceCtorEq, pappend, plen]; refine hK _ _ ?_; clear hK K
    (repeat refine PW.seq ?_); refine PW.cond (t := _) rfl (fun h => ?_) (fun h => ?_)
    · have hkU : k < U.length := by have := of_decide_eq_true h; omega
      have ua := usr_at U k hkU
      have hnext := fun z h1 h2 h3 => ih (U.length - (k + 1)) (by omega) (k + 1) z (by omega) h1 h2 h3 rfl
      rw [List.drop_eq_getElem_cons hkU, apU] at hf
      have fb := fU_bd U[k]
      have fo := fU_ok U[k]
      generalize U[k] = u at *
      refine PW.skip ?_; (repeat refine PW.seq ?_); refine PW.block ?_
      (repeat refine PW.seq ?_); refine PW.rg rfl fun K hK => ?_; simp (maxSteps := 3000000) (disch := omega) only [go_sem, ↓reduceIte, reduceCtorEq, pappend, plen, ua, ul]; refine hK _ _ ?_; clear hK K
      by_cases h256 : 256 < u.length
      · rw [if_pos h256] at hf
        have d1 : decide ((256 : Int) < (u.length : Int)) = true := decide_eq_true (by omega)
        (repeat refine PW.seq ?_); refine PW.rg rfl fun K hK => ?_; simp (maxSteps := 3000000) (disch := omega) only [go_sem, ↓reduceIte, reduceCtorEq, pappend, plen, d1]; refine hK _ _ ?_; clear hK K
        (repeat refine PW.seq ?_); refine PW.cond (t := _) rfl (fun h => ?_) (fun h => ?_)
        rotate_left
        · cases h
        (repeat refine PW.seq ?_); refine PW.rg rfl fun K hK => ?_; simp (maxSteps := 3000000) (disch := omega) only [go_sem, ↓reduceIte, reduceCtorEq, pappend, plen]; refine hK _ _ ?_; clear hK K
        refine PW.ret ⟨.tup [.slice [] 0 true, .int .i64 5], by simp (maxSteps := 3000000) (disch := omega) only [go_sem, ↓reduceIte, reduceCtorEq, pappend, plen, presults, presult, List.mapM_cons, List.mapM_nil, Option.pure_def, Option.bind_eq_bind, Option.bind_some, Array.toList], ?_⟩
        have : apP x U us = (y, 5) := by unfold apP; rw [hf, if_neg (by simp)]
        rw [this]
        have := fin0 y 5 [] (by decide)
        rwa [List.append_nil] at this
      · rw [if_neg h256] at hf
        have d1 : decide ((256 : Int) < (u.length : Int)) = false := decide_eq_false (by omega)
        (repeat refine PW.seq ?_); refine PW.rg rfl fun K hK => ?_; simp (maxSteps := 3000000) (disch := omega) only [go_sem, ↓reduceIte, reduceCtorEq, pappend, plen, d1]; refine hK _ _ ?_; clear hK K
        (repeat refine PW.seq ?_); refine PW.cond (t := _) rfl (fun h => ?_) (fun h => ?_)
        · cases h
        refine PW.skip ?_
        have bl := length_bs u
        have tb : List.take u.length (bs u) = bs u := List.take_of_length_le (by omega)
        (repeat refine PW.seq ?_); refine PW.rg rfl fun K hK => ?_; simp (maxSteps := 3000000) (disch := omega) only [go_sem, ↓reduceIte, reduceCtorEq, pappend, plen, bl, tb, aH_l, Nat.sub_zero, List.length_append]; refine hK _ _ ?_; clear hK K
        have hbu : bs (u ++ [128]) = bs u ++ [.int .u8 128] := by rw [bs_append]; rfl
        have hlu : (u ++ [128]).length = u.length + 1 := by simp
        refine PW.keep [0, 3, 8, 16, 17, 18] ?_
        refine PW.view (Vs.trim (F1 := [(0, bS id y), (3, .ptr H.length 0 0), (8, .slice (bs (u ++ [128])) (u ++ [128]).length false), (16, .slice (U.flatMap usr1) U.length false), (17, .int .i64 (U.length : Int)), (18, .int .i64 (k : Int))]) (H1 := aH H id y (cdc p U us)) aH_sc (by show H.length ≤ _; rw [aH_l]; omega) rfl ?_) ?_
        · rw [aH_l]
          refine ⟨.id (.msl (by omega)), .id (.ptr (by omega)), ?_, .id (sl_scoped ?_), .id (.int _ _), .id (.int _ _), trivial⟩
          · rw [hlu]
            refine Fz.mslC (e := 5) (xs := bs (u ++ [128])) (Nat.le_refl _) ?_ (by rw [length_bs, hlu, Nat.mul_one]) (FzC.refl (bs_scoped _ _))
            rw [hbu]
            have := hp0 (aH H id y (cdc p U us)) [] ⟨5, u.length + 1, bs u ++ [.int .u8 128]⟩
            rwa [aH_l] at this
          · intro z hz
            obtain ⟨w, _, hz⟩ := List.mem_flatMap.1 hz
            simp only [usr1, List.mem_cons, List.not_mem_nil, or_false] at hz
            rw [hz]
            exact sl_scoped (bs_scoped _ _)
        have fm := fun K => format_ok 178 (u ++ [128]) false K (by omega)
        rw [fo] at fm
        unfold bv at fm
        change ∀ K, CallOk _ _ _ K (.tup [.slice (bs (fU u)) (fU u).length false, _]) K at fm
        generalize u ++ [128] = u' at *
        obtain ⟨e, he⟩ : ∃ e, e = fU u := ⟨_, rfl⟩
        rw [← he] at fm hf fb
        have hnext := hnext (more y e) (Nat.le_refl _) (by simp only [more, List.length_append]; rw [Nat.add_mul]; omega) hf
        have hid' := aH_id y (cdc p U us) hi
        have hs' : ∀ z, (aH H id y (cdc p U us)).set id z = H.set id z ++ [⟨62, 0, cdc p U us⟩] := fun z => by
          unfold aH
          rw [List.set_append_left _ _ (by simpa using hi), List.set_set]
        have te : List.take e.length (bs e) = bs e := List.take_of_length_le (by rw [length_bs]; omega)
        have be := length_bs e
        have by' := length_bs y.1
        (repeat refine PW.seq ?_); refine PW.rg rfl fun K hK => ?_; simp (maxSteps := 3000000) (disch := omega) only [go_sem, ↓reduceIte, reduceCtorEq, pappend, plen]; refine VCx.call (fm _) rfl ?_; simp (maxSteps := 3000000) (disch := omega) only [go_sem, ↓reduceIte, reduceCtorEq, pappend, plen]; refine hK _ _ ?_; clear hK K
        (repeat refine PW.seq ?_); refine PW.rg rfl fun K hK => ?_; simp (maxSteps := 3000000) (disch := omega) only [go_sem, ↓reduceIte, reduceCtorEq, pappend, plen]; refine hK _ _ ?_; clear hK K
        (repeat refine PW.seq ?_); refine PW.cond (t := _) rfl (fun h => ?_) (fun h => ?_)
        · cases h
        refine PW.skip ?_
        (repeat refine PW.seq ?_); refine PW.rg rfl fun K hK => ?_; simp (maxSteps := 3000000) (disch := omega) only [go_sem, ↓reduceIte, reduceCtorEq, pappend, plen, bS, hid', bB, te, be, by', hs', List.length_append]; refine hK _ _ ?_; clear hK K
        (repeat refine PW.seq ?_); refine PW.rg rfl fun K hK => ?_; simp (maxSteps := 3000000) (disch := omega) only [go_sem, ↓reduceIte, reduceCtorEq, pappend, plen]; refine hK _ _ ?_; clear hK K
        refine PL.at [0, 3, 16, 17, 18] hnext ?_ ?_
        · simp only [bS, more, List.length_append]; rfl
        · simp only [aH, bB, more, List.length_append, bs_append]
    · have hkU : k = U.length := by have := of_decide_eq_false h; omega
      refine PW.exit ?_
      rw [hkU, List.drop_length, apU] at hf
      have hy3 : y.1.length ≤ 11000000 := by rw [hkU] at hy2; omega
      have hap : apP x U us = apS y us := by unfold apP; rw [hf, if_pos rfl]
      rw [hap]
      clear ih hid hself hf
      have b2 := uq_len us
      (repeat refine PW.seq ?_); refine PW.rg rfl fun K hK => ?_; simp (maxSteps := 3000000) (disch := omega) only [go_sem, ↓reduceIte, reduceCtorEq, pappend, plen, aH_z, c2, c7]; refine hK _ _ ?_; clear hK K
      (repeat refine PW.seq ?_); refine PW.block (PW.loop ?_)
      suffices hl2 : ∀ (j : Nat) (z : BV), j ≤ us.length → z.2 ≤ z.1.length → z.1.length ≤ 11000000 + j * 2000004 → apS y us = apS z (us.drop j) → PL Tryz.prog _ _ [(0, bS id z), (47, .slice (uq us) us.length false), (48, .int .i64 (us.length : Int)), (49, .int .i64 (j : Int))] (aH H id z (cdc p U us)) _ by
        exact PL.at [0, 47, 48, 49] (hl2 0 y (by omega) hy1 (by omega) rfl) rfl rfl
      clear hy1 hy3 hy2 hap
      intro j z hj hz1 hz2 hg
      induction hd2 : us.length - j using Nat.strongRecOn generalizing j z with
      | _ d2 ih2 =>
        refine PL.round ?_; (repeat refine PW.seq ?_); refine PW.rg rfl fun K hK => ?_; simp (maxSteps := 3000000) (disch := omega) only [go_sem, ↓reduceIte, reduceCtorEq, pappend, plen]; refine hK _ _ ?_; clear hK K
        (repeat refine PW.seq ?_); refine PW.cond (t := _) rfl (fun h => ?_) (fun h => ?_)
        · have hju : j < us.length := by have := of_decide_eq_true h; omega
          have u2 := uq_at us j hju
          have hl6 := hup us[j] (List.getElem_mem hju)
          have hnext := fun z h1 h2 h3 => ih2 (us.length - (j + 1)) (by omega) (j + 1) z (by omega) h1 h2 h3 rfl
          rw [List.drop_eq_getElem_cons hju, apS] at hg
          generalize us[j] = u at *
          unfold uq1 at u2
          refine PW.skip ?_; (repeat refine PW.seq ?_); refine PW.block ?_
          (repeat refine PW.seq ?_); refine PW.rg rfl fun K hK => ?_; simp (maxSteps := 3000000) (disch := omega) only [go_sem, ↓reduceIte, reduceCtorEq, pappend, plen, u2, b2, aH_l, aH_1, aH_s1]; refine hK _ _ ?_; clear hK K
          have so := fun K => usl_ok u.1 K
          have hp0' := hp0 (aH H id z (cdc p U us)) [] ⟨31, 0, [.int .i64 u.1, .slice (bs u.2) u.2.length false]⟩
          rw [aH_l] at hp0'
          by_cases ht : 1 ≤ u.1 ∧ u.1 < 5
          rotate_left
          · rw [if_neg ht] at hg
            have hsb : (decide (1 ≤ u.1) && decide (u.1 < 5)) = false := by
              by_cases h1 : 1 ≤ u.1
              · have h5 : ¬ u.1 < 5 := fun h => ht ⟨h1, h⟩
                simp [h5]
              · simp [h1]
            rw [hsb] at so
            (repeat refine PW.seq ?_); refine PW.rg rfl fun K hK => ?_; simp (maxSteps := 3000000) (disch := omega) only [go_sem, ↓reduceIte, reduceCtorEq, pappend, plen, hp0']; refine VCx.call (so _) rfl ?_; simp (maxSteps := 3000000) (disch := omega) only [go_sem, ↓reduceIte, reduceCtorEq, pappend, plen]; refine hK _ _ ?_; clear hK K
            (repeat refine PW.seq ?_); refine PW.cond (t := _) rfl (fun h => ?_) (fun h => ?_)
            rotate_left
            · cases h
            (repeat refine PW.seq ?_); refine PW.rg rfl fun K hK => ?_; simp (maxSteps := 3000000) (disch := omega) only [go_sem, ↓reduceIte, reduceCtorEq, pappend, plen]; refine hK _ _ ?_; clear hK K
            refine PW.ret ⟨.tup [.slice [] 0 true, .int .i64 1], by simp (maxSteps := 3000000) (disch := omega) only [go_sem, ↓reduceIte, reduceCtorEq, pappend, plen, presults, presult, List.mapM_cons, List.mapM_nil, Option.pure_def, Option.bind_eq_bind, Option.bind_some, Array.toList], ?_⟩
            rw [hg]
            exact fin0 z 1 _ (by decide)
          rw [if_pos ht] at hg
          have hsb : (decide (1 ≤ u.1) && decide (u.1 < 5)) = true := by simp [ht.1, ht.2]
          rw [hsb] at so
          (repeat refine PW.seq ?_); refine PW.rg rfl fun K hK => ?_; simp (maxSteps := 3000000) (disch := omega) only [go_sem, ↓reduceIte, reduceCtorEq, pappend, plen, hp0']; refine VCx.call (so _) rfl ?_; simp (maxSteps := 3000000) (disch := omega) only [go_sem, ↓reduceIte, reduceCtorEq, pappend, plen]; refine hK _ _ ?_; clear hK K
          (repeat refine PW.seq ?_); refine PW.cond (t := _) rfl (fun h => ?_) (fun h => ?_)
          · cases h
          refine PW.skip ?_
          have fm := fun K => format_ok u.1 u.2 false K hl6
          have fb := fmt_bd u.1 u.2
          unfold bv at fm
          by_cases he0 : (fmtR u.1 u.2).2 = 0
          rotate_left
          · rw [if_neg he0] at hg
            have hb0 : ((fmtR u.1 u.2).2 != 0) = true := by simp [he0]
            generalize (fmtR u.1 u.2).2 = ee at *
            (repeat refine PW.seq ?_); refine PW.rg rfl fun K hK => ?_; simp (maxSteps := 3000000) (disch := omega) only [go_sem, ↓reduceIte, reduceCtorEq, pappend, plen, hp0']; refine VCx.call (fm _) rfl ?_; simp (maxSteps := 3000000) (disch := omega) only [go_sem, ↓reduceIte, reduceCtorEq, pappend, plen]; refine hK _ _ ?_; clear hK K
            (repeat refine PW.seq ?_); refine PW.rg rfl fun K hK => ?_; simp (maxSteps := 3000000) (disch := omega) only [go_sem, ↓reduceIte, reduceCtorEq, pappend, plen, hb0]; refine hK _ _ ?_; clear hK K
            (repeat refine PW.seq ?_); refine PW.cond (t := _) rfl (fun h => ?_) (fun h => ?_)
            rotate_left
            · cases h
            (repeat refine PW.seq ?_); refine PW.rg rfl fun K hK => ?_; simp (maxSteps := 3000000) (disch := omega) only [go_sem, ↓reduceIte, reduceCtorEq, pappend, plen]; refine hK _ _ ?_; clear hK K
            refine PW.ret ⟨.tup [.slice [] 0 true, .int .i64 ee], by simp (maxSteps := 3000000) (disch := omega) only [go_sem, ↓reduceIte, reduceCtorEq, pappend, plen, presults, presult, List.mapM_cons, List.mapM_nil, Option.pure_def, Option.bind_eq_bind, Option.bind_some, Array.toList], ?_⟩
            rw [hg]
            exact fin0 z ee _ he0
          rw [if_pos he0] at hg
          rw [he0] at fm
          have fp := fmt_pos he0
          obtain ⟨e, he⟩ : ∃ e, e = (fmtR u.1 u.2).1 := ⟨_, rfl⟩
          rw [← he] at fm hg fb fp
          have hnext := hnext (more z e) (Nat.le_refl _) (by simp only [more, List.length_append]; rw [Nat.add_mul]; omega) hg
          have hz3 : z.1.length ≤ 30000000000 := by omega
          have te : List.take e.length (bs e) = bs e := List.take_of_length_le (by rw [length_bs]; omega)
          have be := length_bs e
          have by' := length_bs z.1
          (repeat refine PW.seq ?_); refine PW.rg rfl fun K hK => ?_; simp (maxSteps := 3000000) (disch := omega) only [go_sem, ↓reduceIte, reduceCtorEq, pappend, plen, hp0']; refine VCx.call (fm _) rfl ?_; simp (maxSteps := 3000000) (disch := omega) only [go_sem, ↓reduceIte, reduceCtorEq, pappend, plen]; refine hK _ _ ?_; clear hK K
          (repeat refine PW.seq ?_); refine PW.rg rfl fun K hK => ?_; simp (maxSteps := 3000000) (disch := omega) only [go_sem, ↓reduceIte, reduceCtorEq, pappend, plen]; refine hK _ _ ?_; clear hK K
          (repeat refine PW.seq ?_); refine PW.cond (t := _) rfl (fun h => ?_) (fun h => ?_)
          · cases h
          refine PW.skip ?_
          refine PW.keep [0, 13, 47, 48, 49] ?_
          refine PW.view (Vs.trim (F1 := [(0, bS id z), (13, .slice (bs e) e.length false), (47, .slice (uq us) us.length false), (48, .int .i64 (us.length : Int)), (49, .int .i64 (j : Int))]) (H1 := aH H id z (cdc p U us)) aH_sc (by show H.length ≤ _; rw [aH_l]; omega) rfl ?_) ?_
          · rw [aH_l]
            exact ⟨.id (.msl (by omega)), .id (sl_scoped (bs_scoped _ _)), .id (sl_scoped (uq_sc _ _)), .id (.int _ _), .id (.int _ _), trivial⟩
          have hid' := aH_id z (cdc p U us) hi
          have hs' : ∀ w, (aH H id z (cdc p U us)).set id w = H.set id w ++ [⟨62, 0, cdc p U us⟩] := fun w => by
            unfold aH
            rw [List.set_append_left _ _ (by simpa using hi), List.set_set]
          (repeat refine PW.seq ?_); refine PW.rg rfl fun K hK => ?_; simp (maxSteps := 3000000) (disch := omega) only [go_sem, ↓reduceIte, reduceCtorEq, pappend, plen, bS, hid', bB, te, be, by', hs', List.length_append]; refine hK _ _ ?_; clear hK K
          (repeat refine PW.seq ?_); refine PW.rg rfl fun K hK => ?_; simp (maxSteps := 3000000) (disch := omega) only [go_sem, ↓reduceIte, reduceCtorEq, pappend, plen]; refine hK _ _ ?_; clear hK K
          refine PL.at [0, 47, 48, 49] hnext ?_ ?_
          · simp only [bS, more, List.length_append]; rfl
          · simp only [aH, bB, more, List.length_append, bs_append]
        · have hju : j = us.length := by have := of_decide_eq_false h; omega
          refine PW.exit ?_
          rw [hju, List.drop_length, apS] at hg
          rw [hg]
          (repeat refine PW.seq ?_); refine PW.rg rfl fun K hK => ?_; simp (maxSteps := 3000000) (disch := omega) only [go_sem, ↓reduceIte, reduceCtorEq, pappend, plen]; refine hK _ _ ?_; clear hK K
          refine PW.ret ⟨.tup [bS id z, .int .i64 0], by simp (maxSteps := 3000000) (disch := omega) only [go_sem, ↓reduceIte, reduceCtorEq, pappend, plen, presults, presult, List.mapM_cons, List.mapM_nil, Option.pure_def, Option.bind_eq_bind, Option.bind_some, Array.toList], ?_⟩
          unfold rvA aH
          rw [if_pos rfl]
          exact Fin.cut rfl (by simp) (fun h => HSc.set h (bs_scoped _ _)) (.id (.tup (all_scoped fun w hw => by
            simp only [List.mem_cons, List.not_mem_nil, or_false] at hw
            rcases hw with rfl | rfl
            · exact .msl (by simpa using hi)
            · exact .int _ _)))

end Go.Proofs.YtnnkohejhnjflaaGreatDoor.Sc

namespace Go.Proofs.YtnnkohejhnjflaaGreatDoor.Sc
set_option linter.all false
set_option linter.unusedVariables false
set_option linter.unusedSimpArgs false
open Pm Ty S3 Go.RowKit

def hdU (x : It) : Int × List UInt8 × Int := if x.k = 1 then putS x.s else if x.k = 2 then putG x.gc x.gb x.gt else if x.k = 3 then putH x.p else (183, [], 0)
def okI (x : It) : Bool := decide (1 ≤ x.k) && (decide (x.k ≤ 4) && (decide (0 ≤ x.pad) && decide (x.pad ≤ 1048576)))
/-- A head's bytes. -/
def hdB (x : It) : List UInt8 := (fmtR (hdU x).1 (hdU x).2.1).1
def hdV (x : It) : BV := (hdB x, fv (escR (hdU x).2.1).1)
def itB (x : It) : List UInt8 × Int :=
  if okI x then (if (hdU x).2.2 = 0 then (if x.k = 3 then (if (apP (hdV x) x.U x.us).2 = 0 then ((apP (hdV x) x.U x.us).1.1, 0) else ([], (apP (hdV x) x.U x.us).2)) else (hdB x, 0)) else ([], (hdU x).2.2)) else ([], 1)
def rvB (r : List UInt8 × Int) : PV := .tup [.slice (bs r.1) r.1.length false, .int .i64 r.2]
theorem rvB_sc (n : Nat) (r : List UInt8 × Int) : Scoped n (rvB r) := .tup (all_scoped fun y hy => by
  simp only [List.mem_cons, List.not_mem_nil, or_false] at hy
  rcases hy with rfl | rfl
  · exact sl_scoped (bs_scoped _ _)
  · exact .int _ _)
theorem pay_last (L : List Bool) : lastB (pk (L ++ [true])) ≠ 0 := (pk_payload L).2.1
theorem hdU_fmt {x : It} (h : (hdU x).2.2 = 0) : (fmtR (hdU x).1 (hdU x).2.1).2 = 0 ∧ (hdU x).2.1.length ≤ 200 := by
  unfold hdU at h ⊢
  split
  · rename_i h1
    rw [if_pos h1] at h
    unfold putS at h ⊢
    split
    · refine ⟨fmt_good ⟨by simp, by simp⟩ (.inr (pay_last _)), ?_⟩
      show (pk (sbits x.s ++ [true])).length ≤ _
      rw [pk_len]
      have h1 := mxb_len x.s.ia dIn
      have h2 := mxb_len x.s.ie dIt
      simp [sbits, vbits_len]
      omega
    · rename_i h2
      rw [if_neg h2] at h
      cases h
  · split
    · rename_i h1 h2
      rw [if_neg h1, if_pos h2] at h
      unfold putG at h ⊢
      split
      · refine ⟨fmt_good ⟨by simp, by simp⟩ (.inr (pay_last _)), ?_⟩
        show (pk (gbits x.gc x.gb x.gt ++ [true])).length ≤ _
        rw [pk_len]
        simp [gbits, vbits_len]
      · rename_i h3
        rw [if_neg h3] at h
        cases h
    · split
      · rename_i h1 h2 h3
        rw [if_neg h1, if_neg h2, if_pos h3] at h
        unfold putH at h ⊢
        split
        · refine ⟨fmt_good ⟨by simp, by simp⟩ (.inr (pay_last _)), ?_⟩
          show (pk (hbits x.p ++ [true])).length ≤ _
          rw [pk_len]
          simp [hbits, vbits_len]
        · rename_i h4
          rw [if_neg h4] at h
          cases h
      · exact ⟨fmt_good (by decide) (.inl rfl), by simp⟩
structure Lt (x : It) : Prop where
  ok : ItOk x
  U : x.U.length ≤ 10000
  us : x.us.length ≤ 10000
  up : ∀ u ∈ x.us, u.2.length ≤ 1000000

set_option maxHeartbeats 8000000 in
set_option maxRecDepth 100000 in
theorem itb_ok (x : It) (H : Heap) (hx : Lt x) : CallOk Tryz.prog 66 [.agg (itc x)] H (rvB (itB x)) H := by
  have hs := hx.ok.s
  have i1 := itc_cell x
  have i2 := itc_len x hs
  have i3 := itc_0 x
  have i4 := itc_pad x hs
  have i5 := itc_s x hs
  have i6 := itc_g x hs
  have i7 := itc_c x hs
  have i8 := itc_p x hs
  generalize hr : itB x = r
  unfold itB at hr
  refine CallOk.body (F0 := [(0, .agg (itc x))]) Tryz.func66 rfl Tryz.ntmps66 Tryz.results66 rfl (by kernel_rfl) rfl ?_
  (repeat refine PW.seq ?_); refine PW.rg rfl fun K hK => ?_; simp (maxSteps := 3000000) (disch := omega) only [go_sem, ↓reduceIte, reduceCtorEq, pappend, plen, i1]; refine hK _ _ ?_; clear hK K
  cases hok : okI x with
  | false =>
    rw [hok, if_neg (by decide)] at hr
    suffices hrest : PW Tryz.prog _ _ [(24, .bool true)] (H ++ [⟨64, 0, itc x⟩]) _ by
      unfold okI at hok
      (repeat refine PW.seq ?_); refine PW.rg rfl fun K hK => ?_; simp (maxSteps := 3000000) (disch := omega) only [go_sem, ↓reduceIte, reduceCtorEq, pappend, plen, i3, i4]; (repeat' ((first | refine VO_cond (fun h => ?_) (fun h => ?_) | refine VOd_cond (fun h => ?_) (fun h => ?_) | refine VOg_cond (fun h => ?_) (fun h => ?_) | refine VOh_cond (fun h => ?_) (fun h => ?_) | refine VOi_cond (fun h => ?_) (fun h => ?_) | refine And.intro (fun h => ?_) (fun h => ?_)) <;> (try simp only [Bool.not_eq_true', Bool.not_eq_false', decide_eq_true_eq, decide_eq_false_iff_not] at h) <;> simp (maxSteps := 3000000) (disch := omega) only [go_sem, ↓reduceIte, reduceCtorEq, pappend, plen, i3, i4, h]))
      all_goals (refine hK _ _ ?_; clear hK K; refine PW.at [24] hrest ?_ rfl; simp [kp, slot, Nat.beq]; try (simp only [Bool.and_eq_false_iff, decide_eq_false_iff_not] at hok; omega))
    (repeat refine PW.seq ?_); refine PW.cond (t := _) rfl (fun h => ?_) (fun h => ?_)
    rotate_left
    · cases h
    (repeat refine PW.seq ?_); refine PW.rg rfl fun K hK => ?_; simp (maxSteps := 3000000) (disch := omega) only [go_sem, ↓reduceIte, reduceCtorEq, pappend, plen]; refine hK _ _ ?_; clear hK K
    refine PW.ret ⟨.tup [.slice [] 0 true, .int .i64 1], by simp (maxSteps := 3000000) (disch := omega) only [go_sem, ↓reduceIte, reduceCtorEq, pappend, plen, presults, presult, List.mapM_cons, List.mapM_nil, Option.pure_def, Option.bind_eq_bind, Option.bind_some, Array.toList], ?_⟩
    rw [← hr]
    exact Fin.base (Fz.tupC ⟨Fz.sliceC trivial (fun e => by cases e), .id (.int _ _), trivial⟩)
  | true =>
    rw [hok, if_pos rfl] at hr
    unfold okI at hok
    simp only [Bool.and_eq_true, decide_eq_true_eq] at hok
    obtain ⟨k1, k2, k3, k4⟩ := hok
    have d1 : decide (x.k < 1) = false := decide_eq_false (by omega)
    have d2 : decide (4 < x.k) = false := decide_eq_false (by omega)
    have d3 : decide (x.pad < 0) = false := decide_eq_false (by omega)
    have d4 : decide (1048576 < x.pad) = false := decide_eq_false (by omega)
    (repeat refine PW.seq ?_); refine PW.rg rfl fun K hK => ?_; simp (maxSteps := 3000000) (disch := omega) only [go_sem, ↓reduceIte, reduceCtorEq, pappend, plen, i3, i4, d1, d2, d3, d4]; refine hK _ _ ?_; clear hK K
    (repeat refine PW.seq ?_); refine PW.cond (t := _) rfl (fun h => ?_) (fun h => ?_)
    · cases h
    refine PW.skip ?_
    (repeat refine PW.seq ?_); refine PW.rg rfl fun K hK => ?_; simp (maxSteps := 3000000) (disch := omega) only [go_sem, ↓reduceIte, reduceCtorEq, pappend, plen]; refine hK _ _ ?_; clear hK K
    (repeat refine PW.seq ?_); refine PW.rg rfl fun K hK => ?_; simp (maxSteps := 3000000) (disch := omega) only [go_sem, ↓reduceIte, reduceCtorEq, pappend, plen]; refine hK _ _ ?_; clear hK K
    (repeat refine PW.seq ?_); refine PW.rg rfl fun K hK => ?_; simp (maxSteps := 3000000) (disch := omega) only [go_sem, ↓reduceIte, reduceCtorEq, pappend, plen, i3]; refine hK _ _ ?_; clear hK K
    suffices hrest : ∀ f, PW Tryz.prog _ _ [(1, .ptr H.length 0 0), (4, .ptr (H.length + 1) 0 0), (5, .int .i64 (hdU x).2.2)] (H ++ [⟨64, 0, itc x⟩, ⟨31, 0, [.int .i64 (hdU x).1, .slice (bs (hdU x).2.1) (hdU x).2.1.length f]⟩]) _ by
      have hk : x.k = 1 ∨ x.k = 2 ∨ x.k = 3 ∨ x.k = 4 := by omega
      rcases hk with hk | hk | hk | hk
      · have hu : hdU x = putS x.s := by unfold hdU; rw [if_pos hk]
        rw [hu] at hrest
        have po := fun K => puts_ok x.s K hs
        have e1 : (x.k == 1) = true := by simp [hk]
        (repeat refine PW.seq ?_); refine PW.block ?_
        (repeat refine PW.seq ?_); refine PW.rg rfl fun K hK => ?_; simp (maxSteps := 3000000) (disch := omega) only [go_sem, ↓reduceIte, reduceCtorEq, pappend, plen, e1]; refine hK _ _ ?_; clear hK K
        (repeat refine PW.seq ?_); refine PW.cond (t := _) rfl (fun h => ?_) (fun h => ?_)
        rotate_left
        · cases h
        (repeat refine PW.seq ?_); refine PW.rg rfl fun K hK => ?_; simp (maxSteps := 3000000) (disch := omega) only [go_sem, ↓reduceIte, reduceCtorEq, pappend, plen, i2, i5]; refine VCx.call (po _) rfl ?_; simp (maxSteps := 3000000) (disch := omega) only [go_sem, ↓reduceIte, reduceCtorEq, pappend, plen, uv]; refine hK _ _ ?_; clear hK K
        exact PW.at [1, 4, 5] (hrest false) rfl rfl
      · have hu : hdU x = putG x.gc x.gb x.gt := by unfold hdU; rw [if_neg (by omega), if_pos hk]
        rw [hu] at hrest
        have po := fun K => putg_ok x.gc x.gb x.gt K hx.ok.gt
        have e1 : (x.k == 1) = false := by simp [hk]
        have e2 : (x.k == 2) = true := by simp [hk]
        (repeat refine PW.seq ?_); refine PW.block ?_
        (repeat refine PW.seq ?_); refine PW.rg rfl fun K hK => ?_; simp (maxSteps := 3000000) (disch := omega) only [go_sem, ↓reduceIte, reduceCtorEq, pappend, plen, e1]; refine hK _ _ ?_; clear hK K
        (repeat refine PW.seq ?_); refine PW.cond (t := _) rfl (fun h => ?_) (fun h => ?_)
        · cases h
        (repeat refine PW.seq ?_); refine PW.rg rfl fun K hK => ?_; simp (maxSteps := 3000000) (disch := omega) only [go_sem, ↓reduceIte, reduceCtorEq, pappend, plen, e2]; refine hK _ _ ?_; clear hK K
        (repeat refine PW.seq ?_); refine PW.cond (t := _) rfl (fun h => ?_) (fun h => ?_)
        rotate_left
        · cases h
        (repeat refine PW.seq ?_); refine PW.rg rfl fun K hK => ?_; simp (maxSteps := 3000000) (disch := omega) only [go_sem, ↓reduceIte, reduceCtorEq, pappend, plen, i2, i6]; refine VCx.call (po _) rfl ?_; simp (maxSteps := 3000000) (disch := omega) only [go_sem, ↓reduceIte, reduceCtorEq, pappend, plen, uv]; refine hK _ _ ?_; clear hK K
        exact PW.at [1, 4, 5] (hrest false) rfl rfl
      · have hu : hdU x = putH x.p := by unfold hdU; rw [if_neg (by omega), if_neg (by omega), if_pos hk]
        rw [hu] at hrest
        have po := fun K => putH_ok x.p K
        have e1 : (x.k == 1) = false := by simp [hk]
        have e2 : (x.k == 2) = false := by simp [hk]
        have e3 : (x.k == 3) = true := by simp [hk]
        (repeat refine PW.seq ?_); refine PW.block ?_
        (repeat refine PW.seq ?_); refine PW.rg rfl fun K hK => ?_; simp (maxSteps := 3000000) (disch := omega) only [go_sem, ↓reduceIte, reduceCtorEq, pappend, plen, e1]; refine hK _ _ ?_; clear hK K
        (repeat refine PW.seq ?_); refine PW.cond (t := _) rfl (fun h => ?_) (fun h => ?_)
        · cases h
        (repeat refine PW.seq ?_); refine PW.rg rfl fun K hK => ?_; simp (maxSteps := 3000000) (disch := omega) only [go_sem, ↓reduceIte, reduceCtorEq, pappend, plen, e2]; refine hK _ _ ?_; clear hK K
        (repeat refine PW.seq ?_); refine PW.cond (t := _) rfl (fun h => ?_) (fun h => ?_)
        · cases h
        (repeat refine PW.seq ?_); refine PW.rg rfl fun K hK => ?_; simp (maxSteps := 3000000) (disch := omega) only [go_sem, ↓reduceIte, reduceCtorEq, pappend, plen, e3]; refine hK _ _ ?_; clear hK K
        (repeat refine PW.seq ?_); refine PW.cond (t := _) rfl (fun h => ?_) (fun h => ?_)
        rotate_left
        · cases h
        (repeat refine PW.seq ?_); refine PW.rg rfl fun K hK => ?_; simp (maxSteps := 3000000) (disch := omega) only [go_sem, ↓reduceIte, reduceCtorEq, pappend, plen, i2, i8]; refine VCx.call (po _) rfl ?_; simp (maxSteps := 3000000) (disch := omega) only [go_sem, ↓reduceIte, reduceCtorEq, pappend, plen, uv]; refine hK _ _ ?_; clear hK K
        exact PW.at [1, 4, 5] (hrest false) rfl rfl
      · have hu : hdU x = (183, [], 0) := by unfold hdU; rw [if_neg (by omega), if_neg (by omega), if_neg (by omega)]
        rw [hu] at hrest
        have e1 : (x.k == 1) = false := by simp [hk]
        have e2 : (x.k == 2) = false := by simp [hk]
        have e3 : (x.k == 3) = false := by simp [hk]
        have e4 : (x.k == 4) = true := by simp [hk]
        (repeat refine PW.seq ?_); refine PW.block ?_
        (repeat refine PW.seq ?_); refine PW.rg rfl fun K hK => ?_; simp (maxSteps := 3000000) (disch := omega) only [go_sem, ↓reduceIte, reduceCtorEq, pappend, plen, e1]; refine hK _ _ ?_; clear hK K
        (repeat refine PW.seq ?_); refine PW.cond (t := _) rfl (fun h => ?_) (fun h => ?_)
        · cases h
        (repeat refine PW.seq ?_); refine PW.rg rfl fun K hK => ?_; simp (maxSteps := 3000000) (disch := omega) only [go_sem, ↓reduceIte, reduceCtorEq, pappend, plen, e2]; refine hK _ _ ?_; clear hK K
        (repeat refine PW.seq ?_); refine PW.cond (t := _) rfl (fun h => ?_) (fun h => ?_)
        · cases h
        (repeat refine PW.seq ?_); refine PW.rg rfl fun K hK => ?_; simp (maxSteps := 3000000) (disch := omega) only [go_sem, ↓reduceIte, reduceCtorEq, pappend, plen, e3]; refine hK _ _ ?_; clear hK K
        (repeat refine PW.seq ?_); refine PW.cond (t := _) rfl (fun h => ?_) (fun h => ?_)
        · cases h
        (repeat refine PW.seq ?_); refine PW.rg rfl fun K hK => ?_; simp (maxSteps := 3000000) (disch := omega) only [go_sem, ↓reduceIte, reduceCtorEq, pappend, plen, e4]; refine hK _ _ ?_; clear hK K
        (repeat refine PW.seq ?_); refine PW.cond (t := _) rfl (fun h => ?_) (fun h => ?_)
        rotate_left
        · cases h
        (repeat refine PW.seq ?_); refine PW.rg rfl fun K hK => ?_; simp (maxSteps := 3000000) (disch := omega) only [go_sem, ↓reduceIte, reduceCtorEq, pappend, plen]; refine hK _ _ ?_; clear hK K
        exact PW.at [1, 4, 5] (hrest true) rfl rfl
    intro f
    by_cases he : (hdU x).2.2 = 0
    rotate_left
    · rw [if_neg he] at hr
      have be : ((hdU x).2.2 != 0) = true := by simp [he]
      (repeat refine PW.seq ?_); refine PW.rg rfl fun K hK => ?_; simp (maxSteps := 3000000) (disch := omega) only [go_sem, ↓reduceIte, reduceCtorEq, pappend, plen, be]; refine hK _ _ ?_; clear hK K
      (repeat refine PW.seq ?_); refine PW.cond (t := _) rfl (fun h => ?_) (fun h => ?_)
      rotate_left
      · cases h
      (repeat refine PW.seq ?_); refine PW.rg rfl fun K hK => ?_; simp (maxSteps := 3000000) (disch := omega) only [go_sem, ↓reduceIte, reduceCtorEq, pappend, plen]; refine hK _ _ ?_; clear hK K
      refine PW.ret ⟨.tup [.slice [] 0 true, .int .i64 (hdU x).2.2], by simp (maxSteps := 3000000) (disch := omega) only [go_sem, ↓reduceIte, reduceCtorEq, pappend, plen, presults, presult, List.mapM_cons, List.mapM_nil, Option.pure_def, Option.bind_eq_bind, Option.bind_some, Array.toList], ?_⟩
      rw [← hr]
      exact Fin.base (Fz.tupC ⟨Fz.sliceC trivial (fun e => by cases e), .id (.int _ _), trivial⟩)
    rw [if_pos he] at hr
    obtain ⟨hf, hl⟩ := hdU_fmt he
    have be : ((hdU x).2.2 != 0) = false := by simp [he]
    have fm := fun K => format_m (hdU x).1 (hdU x).2.1 f K (by omega) hf
    have hbl : (hdB x).length ≤ 1000 := by have := fmt_bd (hdU x).1 (hdU x).2.1; unfold hdB; omega
    have hvl : (hdV x).2 ≤ (hdV x).1.length := by
      unfold hdV hdB
      rw [(fmt_l hf).1]
      have := fv_le (escR (hdU x).2.1).1
      simp
      omega
    (repeat refine PW.seq ?_); refine PW.rg rfl fun K hK => ?_; simp (maxSteps := 3000000) (disch := omega) only [go_sem, ↓reduceIte, reduceCtorEq, pappend, plen, be]; refine hK _ _ ?_; clear hK K
    (repeat refine PW.seq ?_); refine PW.cond (t := _) rfl (fun h => ?_) (fun h => ?_)
    · cases h
    refine PW.skip ?_
    (repeat refine PW.seq ?_); refine PW.rg rfl fun K hK => ?_; simp (maxSteps := 3000000) (disch := omega) only [go_sem, ↓reduceIte, reduceCtorEq, pappend, plen]; refine VCx.call (fm _) rfl ?_; simp (maxSteps := 3000000) (disch := omega) only [go_sem, ↓reduceIte, reduceCtorEq, pappend, plen]; refine hK _ _ ?_; clear hK K
    (repeat refine PW.seq ?_); refine PW.rg rfl fun K hK => ?_; simp (maxSteps := 3000000) (disch := omega) only [go_sem, ↓reduceIte, reduceCtorEq, pappend, plen]; refine hK _ _ ?_; clear hK K
    (repeat refine PW.seq ?_); refine PW.cond (t := _) rfl (fun h => ?_) (fun h => ?_)
    · cases h
    refine PW.skip ?_
    have hf1 : (fmtR (hdU x).1 (hdU x).2.1).1 = hdB x := rfl
    rw [hf1]
    obtain ⟨M, hM⟩ : ∃ M, M = H ++ [⟨64, 0, itc x⟩, ⟨31, 0, [.int .i64 (hdU x).1, .slice (bs (hdU x).2.1) (hdU x).2.1.length f]⟩, ⟨31, 0, [.int .i64 (hdU x).1, .slice (bs (hdU x).2.1) (hdU x).2.1.length f]⟩, bB (hdV x)] := ⟨_, rfl⟩
    have m0 : M[H.length]? = some ⟨64, 0, itc x⟩ := by rw [hM]; exact hp0 _ _ _
    have m3 : M[H.length + 3]? = some (bB (hdV x)) := by rw [hM]; exact hp3 _ _ _ _ _ _
    refine PW.at [1, 6] (F1 := [(1, .ptr H.length 0 0), (6, bS (H.length + 3) (hdV x))]) (H1 := M) ?_ rfl (by rw [hM]; rfl)
    by_cases hk : x.k = 3
    · rw [if_pos hk] at hr
      have e3 : (x.k == 3) = true := by simp [hk]
      have ap := app_ok (H.length + 3) (hdV x) x.p x.U x.us M m3 hvl (by show (hdB x).length ≤ _; omega) hx.U hx.us hx.up
      have hMs : ∀ y, M.set (H.length + 3) (bB y) = H ++ [⟨64, 0, itc x⟩, ⟨31, 0, [.int .i64 (hdU x).1, .slice (bs (hdU x).2.1) (hdU x).2.1.length f]⟩, ⟨31, 0, [.int .i64 (hdU x).1, .slice (bs (hdU x).2.1) (hdU x).2.1.length f]⟩, bB y] := fun y => by rw [hM, aps]; rfl
      rw [hMs] at ap
      (repeat refine PW.seq ?_); refine PW.rg rfl fun K hK => ?_; simp (maxSteps := 3000000) (disch := omega) only [go_sem, ↓reduceIte, reduceCtorEq, pappend, plen, m0, i3, e3]; refine hK _ _ ?_; clear hK K
      (repeat refine PW.seq ?_); refine PW.cond (t := _) rfl (fun h => ?_) (fun h => ?_)
      rotate_left
      · cases h
      by_cases h0 : (apP (hdV x) x.U x.us).2 = 0
      · rw [if_pos h0] at hr
        unfold rvA at ap
        rw [if_pos h0] at ap
        generalize (apP (hdV x) x.U x.us).1 = y at *
        (repeat refine PW.seq ?_); refine PW.rg rfl fun K hK => ?_; simp (maxSteps := 3000000) (disch := omega) only [go_sem, ↓reduceIte, reduceCtorEq, pappend, plen, m0, i2, i7]; refine VCx.call (ap) rfl ?_; simp (maxSteps := 3000000) (disch := omega) only [go_sem, ↓reduceIte, reduceCtorEq, pappend, plen]; refine hK _ _ ?_; clear hK K
        refine PW.ret ⟨.tup [bS (H.length + 3) y, .int .i64 0], by simp (maxSteps := 3000000) (disch := omega) only [go_sem, ↓reduceIte, reduceCtorEq, pappend, plen, presults, presult, List.mapM_cons, List.mapM_nil, Option.pure_def, Option.bind_eq_bind, Option.bind_some, Array.toList], ?_⟩
        rw [← hr]
        refine Fin.base (Fz.tupC ⟨?_, .id (.int _ _), trivial⟩)
        exact Fz.mslC (e := 5) (xs := bs y.1) (by omega) (hp3 _ _ _ _ _ _) (by rw [length_bs, Nat.mul_one]) (FzC.refl (bs_scoped _ _))
      · rw [if_neg h0] at hr
        unfold rvA at ap
        rw [if_neg h0] at ap
        generalize (apP (hdV x) x.U x.us).2 = ee at *
        (repeat refine PW.seq ?_); refine PW.rg rfl fun K hK => ?_; simp (maxSteps := 3000000) (disch := omega) only [go_sem, ↓reduceIte, reduceCtorEq, pappend, plen, m0, i2, i7]; refine VCx.call (ap) rfl ?_; simp (maxSteps := 3000000) (disch := omega) only [go_sem, ↓reduceIte, reduceCtorEq, pappend, plen]; refine hK _ _ ?_; clear hK K
        refine PW.ret ⟨.tup [.slice [] 0 true, .int .i64 ee], by simp (maxSteps := 3000000) (disch := omega) only [go_sem, ↓reduceIte, reduceCtorEq, pappend, plen, presults, presult, List.mapM_cons, List.mapM_nil, Option.pure_def, Option.bind_eq_bind, Option.bind_some, Array.toList], ?_⟩
        rw [← hr]
        exact Fin.base (Fz.tupC ⟨Fz.sliceC trivial (fun e => by cases e), .id (.int _ _), trivial⟩)
    · rw [if_neg hk] at hr
      have e3 : (x.k == 3) = false := by simp [hk]
      (repeat refine PW.seq ?_); refine PW.rg rfl fun K hK => ?_; simp (maxSteps := 3000000) (disch := omega) only [go_sem, ↓reduceIte, reduceCtorEq, pappend, plen, m0, i3, e3]; refine hK _ _ ?_; clear hK K
      (repeat refine PW.seq ?_); refine PW.cond (t := _) rfl (fun h => ?_) (fun h => ?_)
      · cases h
      refine PW.skip ?_
      (repeat refine PW.seq ?_); refine PW.rg rfl fun K hK => ?_; simp (maxSteps := 3000000) (disch := omega) only [go_sem, ↓reduceIte, reduceCtorEq, pappend, plen]; refine hK _ _ ?_; clear hK K
      refine PW.ret ⟨.tup [bS (H.length + 3) (hdV x), .int .i64 0], by simp (maxSteps := 3000000) (disch := omega) only [go_sem, ↓reduceIte, reduceCtorEq, pappend, plen, presults, presult, List.mapM_cons, List.mapM_nil, Option.pure_def, Option.bind_eq_bind, Option.bind_some, Array.toList], ?_⟩
      rw [← hr, hM]
      refine Fin.base (Fz.tupC ⟨?_, .id (.int _ _), trivial⟩)
      exact Fz.mslC (e := 5) (xs := bs (hdB x)) (by omega) (hp3 _ _ _ _ _ _) (by rw [length_bs, Nat.mul_one]; rfl) (FzC.refl (bs_scoped _ _))

def szI (x : It) : PV := if (itB x).2 = 0 then .tup [.int .i64 (((itB x).1.length : Int) + x.pad), .int .i64 0] else .tup [.int .i64 0, .int .i64 (itB x).2]
set_option maxHeartbeats 4000000 in
theorem size_ok (x : It) (H : Heap) (hx : Lt x) (hb : (itB x).1.length ≤ 100000000000) : CallOk Tryz.prog 23 [.agg (itc x)] H (szI x) H := by
  have hs := hx.ok.s
  have i1 := itc_cell x
  have i2 := itc_len x hs
  have i4 := itc_pad x hs
  have i9 : List.take 148 (itc x) = itc x := List.take_of_length_le (by omega)
  have ib := fun K => itb_ok x K hx
  have hp := hx.ok.pad
  unfold i64r at hp
  have hpd : (itB x).2 = 0 → 0 ≤ x.pad ∧ x.pad ≤ 1048576 := fun h => by
    unfold itB at h
    cases hok : okI x with
    | false => rw [hok, if_neg (by decide)] at h; cases h
    | true =>
      unfold okI at hok
      simp only [Bool.and_eq_true, decide_eq_true_eq] at hok
      exact hok.2.2
  unfold rvB at ib
  generalize hr : szI x = r
  unfold szI at hr
  generalize (itB x).1 = b at *
  generalize (itB x).2 = e at *
  refine CallOk.body (F0 := [(0, .agg (itc x))]) Tryz.func23 rfl Tryz.ntmps23 Tryz.results23 rfl (by kernel_rfl) rfl ?_
  (repeat refine PW.seq ?_); refine PW.rg rfl fun K hK => ?_; simp (maxSteps := 3000000) (disch := omega) only [go_sem, ↓reduceIte, reduceCtorEq, pappend, plen, i1]; refine hK _ _ ?_; clear hK K
  (repeat refine PW.seq ?_); refine PW.rg rfl fun K hK => ?_; simp (maxSteps := 3000000) (disch := omega) only [go_sem, ↓reduceIte, reduceCtorEq, pappend, plen, i2, i9]; refine VCx.call (ib _) rfl ?_; simp (maxSteps := 3000000) (disch := omega) only [go_sem, ↓reduceIte, reduceCtorEq, pappend, plen]; refine hK _ _ ?_; clear hK K
  by_cases he : e = 0
  · rw [if_pos he] at hr
    have be : (e != 0) = false := by simp [he]
    have hp2 := hpd he
    (repeat refine PW.seq ?_); refine PW.rg rfl fun K hK => ?_; simp (maxSteps := 3000000) (disch := omega) only [go_sem, ↓reduceIte, reduceCtorEq, pappend, plen, be]; refine hK _ _ ?_; clear hK K
    (repeat refine PW.seq ?_); refine PW.cond (t := _) rfl (fun h => ?_) (fun h => ?_)
    · cases h
    refine PW.skip ?_
    (repeat refine PW.seq ?_); refine PW.rg rfl fun K hK => ?_; simp (maxSteps := 3000000) (disch := omega) only [go_sem, ↓reduceIte, reduceCtorEq, pappend, plen, i4]; refine hK _ _ ?_; clear hK K
    refine PW.ret ⟨.tup [.int .i64 ((b.length : Int) + x.pad), .int .i64 0], by simp (maxSteps := 3000000) (disch := omega) only [go_sem, ↓reduceIte, reduceCtorEq, pappend, plen, presults, presult, List.mapM_cons, List.mapM_nil, Option.pure_def, Option.bind_eq_bind, Option.bind_some, Array.toList], ?_⟩
    rw [← hr]
    exact Fin.base (.id (.tup (all_scoped fun y hy => by
      simp only [List.mem_cons, List.not_mem_nil, or_false] at hy
      rcases hy with rfl | rfl <;> exact .int _ _)))
  · rw [if_neg he] at hr
    have be : (e != 0) = true := by simp [he]
    (repeat refine PW.seq ?_); refine PW.rg rfl fun K hK => ?_; simp (maxSteps := 3000000) (disch := omega) only [go_sem, ↓reduceIte, reduceCtorEq, pappend, plen, be]; refine hK _ _ ?_; clear hK K
    (repeat refine PW.seq ?_); refine PW.cond (t := _) rfl (fun h => ?_) (fun h => ?_)
    rotate_left
    · cases h
    (repeat refine PW.seq ?_); refine PW.rg rfl fun K hK => ?_; simp (maxSteps := 3000000) (disch := omega) only [go_sem, ↓reduceIte, reduceCtorEq, pappend, plen]; refine hK _ _ ?_; clear hK K
    refine PW.ret ⟨.tup [.int .i64 0, .int .i64 e], by simp (maxSteps := 3000000) (disch := omega) only [go_sem, ↓reduceIte, reduceCtorEq, pappend, plen, presults, presult, List.mapM_cons, List.mapM_nil, Option.pure_def, Option.bind_eq_bind, Option.bind_some, Array.toList], ?_⟩
    rw [← hr]
    exact Fin.base (.id (.tup (all_scoped fun y hy => by
      simp only [List.mem_cons, List.not_mem_nil, or_false] at hy
      rcases hy with rfl | rfl <;> exact .int _ _)))

end Go.Proofs.YtnnkohejhnjflaaGreatDoor.Sc

namespace Go.Proofs.YtnnkohejhnjflaaGreatDoor.Sc
set_option linter.all false
set_option linter.unusedVariables false
set_option linter.unusedSimpArgs false
open Pm Ty S3 Go.RowKit

abbrev Un := Int × List UInt8
def unU : List Un → List (List UInt8) → List Un × Int
  | l, [] => (l, 0)
  | l, u :: r => if 256 < u.length then ([], 5) else unU (l ++ [(178, u ++ [128])]) r
def unS : List Un → List Un → List Un × Int
  | l, [] => (l, 0)
  | l, u :: r => if 1 ≤ u.1 ∧ u.1 < 5 then (if (fmtR u.1 u.2).2 = 0 then unS (l ++ [u]) r else ([], (fmtR u.1 u.2).2)) else ([], 1)
def unI (x : It) : List Un × Int :=
  if okI x then (if (hdU x).2.2 = 0 then (if x.k = 3 then (if (unU [((hdU x).1, (hdU x).2.1)] x.U).2 = 0 then unS (unU [((hdU x).1, (hdU x).2.1)] x.U).1 x.us else ([], (unU [((hdU x).1, (hdU x).2.1)] x.U).2)) else ([((hdU x).1, (hdU x).2.1)], 0)) else ([], (hdU x).2.2)) else ([], 1)
def rvUn (r : List Un × Int) : PV := .tup [.slice (uq r.1) r.1.length false, .int .i64 r.2]
theorem rvUn_sc (n : Nat) (r : List Un × Int) : Scoped n (rvUn r) := .tup (all_scoped fun y hy => by
  simp only [List.mem_cons, List.not_mem_nil, or_false] at hy
  rcases hy with rfl | rfl
  · exact sl_scoped (uq_sc _ _)
  · exact .int _ _)
theorem unU_e {l : List Un} {U : List (List UInt8)} : (unU l U).2 = 0 ∨ unU l U = ([], 5) := by
  induction U generalizing l with
  | nil => exact .inl rfl
  | cons u r ih =>
    unfold unU
    split
    · exact .inr rfl
    · exact ih
theorem unS_e {l r : List Un} : (unS l r).2 = 0 ∨ (unS l r).1 = [] := by
  induction r generalizing l with
  | nil => exact .inl rfl
  | cons u r ih =>
    unfold unS
    split
    · split
      · exact ih
      · exact .inr rfl
    · exact .inr rfl
/-- What 'units' has in memory. -/
def uR (H : Heap) (x : It) (X : List PV) (l : List Un) (v : Nat) : Heap := H ++ [⟨64, 0, itc x⟩, ⟨31, 0, X⟩, ⟨31, v, uq l⟩]
theorem uR_l (H : Heap) (x : It) (X : List PV) (l : List Un) (v : Nat) : (uR H x X l v).length = H.length + 3 := by simp [uR]
theorem uR_0 (H : Heap) (x : It) (X : List PV) (l : List Un) (v : Nat) (K : Heap) : (uR H x X l v ++ K)[H.length]? = some ⟨64, 0, itc x⟩ := by
  unfold uR; rw [List.append_assoc]; exact hp0 _ _ _
theorem uR_0' (H : Heap) (x : It) (X : List PV) (l : List Un) (v : Nat) : (uR H x X l v)[H.length]? = some ⟨64, 0, itc x⟩ := hp0 _ _ _
theorem uR_2 (H : Heap) (x : It) (X : List PV) (l : List Un) (v : Nat) (K : Heap) : (uR H x X l v ++ K)[H.length + 2]? = some ⟨31, v, uq l⟩ := by
  unfold uR; rw [List.append_assoc]; exact hp2 _ _ _ _ _
theorem uR_2' (H : Heap) (x : It) (X : List PV) (l : List Un) (v : Nat) : (uR H x X l v)[H.length + 2]? = some ⟨31, v, uq l⟩ := hp2 _ _ _ _ _
theorem uR_s (H : Heap) (x : It) (X : List PV) (l : List Un) (v : Nat) (K : Heap) (Y : Blk) : (uR H x X l v ++ K).set (H.length + 2) Y = H ++ ([⟨64, 0, itc x⟩, ⟨31, 0, X⟩, Y] ++ K) := by
  unfold uR; rw [List.append_assoc, aps]; rfl
theorem uR_s' (H : Heap) (x : It) (X : List PV) (l : List Un) (v : Nat) (Y : Blk) : (uR H x X l v).set (H.length + 2) Y = H ++ [⟨64, 0, itc x⟩, ⟨31, 0, X⟩, Y] := by
  unfold uR; rw [aps]; rfl
theorem uR_3 (H : Heap) (x : It) (X : List PV) (l : List Un) (v : Nat) (b : Blk) (K : Heap) : (uR H x X l v ++ b :: K)[H.length + 3]? = some b := by
  have := hp0 (uR H x X l v) K b
  rwa [uR_l] at this
theorem uR_s3 (H : Heap) (x : It) (X : List PV) (l : List Un) (v : Nat) (b Y : Blk) (K : Heap) : (uR H x X l v ++ b :: K).set (H.length + 3) Y = uR H x X l v ++ Y :: K := by
  have := hs0 (uR H x X l v) K b Y
  rwa [uR_l] at this
theorem uq_app (l m : List Un) : uq (l ++ m) = uq l ++ uq m := by simp [uq]
theorem uq_one (u : Un) : uq [u] = uq1 u := by simp [uq]
theorem uq_fzc {n : Nat} {H : Heap} (l : List Un) : FzC n H (uq l) (uq l) := FzC.refl (uq_sc n l)

set_option maxHeartbeats 8000000 in
set_option maxRecDepth 100000 in
theorem units_ref (x : It) (H : Heap) (hx : Lt x) : CallOk Tryz.prog 97 [.agg (itc x)] H (rvUn (unI x)) H := by
  have hs := hx.ok.s
  have i1 := itc_cell x
  have i2 := itc_len x hs
  have i3 := itc_0 x
  have i4 := itc_pad x hs
  have i5 := itc_s x hs
  have i6 := itc_g x hs
  have i8 := itc_p x hs
  have i9 := itc_u x hs
  have i10 := itc_us x hs
  have fe : ∀ (e : Int) (K : Heap), rvUn ([], e) = rvUn ([], e) → Fin H (rvUn ([], e)) H (.tup [.slice [] 0 true, .int .i64 e]) (H ++ K) := fun e K _ =>
    Fin.base (Fz.tupC ⟨Fz.sliceC trivial (fun e => by cases e), .id (.int _ _), trivial⟩)
  generalize hr : unI x = r
  unfold unI at hr
  refine CallOk.body (F0 := [(0, .agg (itc x))]) Tryz.func97 rfl Tryz.ntmps97 Tryz.results97 rfl (by kernel_rfl) rfl ?_
  (repeat refine PW.seq ?_); refine PW.rg rfl fun K hK => ?_; simp (maxSteps := 3000000) (disch := omega) only [go_sem, ↓reduceIte, reduceCtorEq, pappend, plen, i1]; refine hK _ _ ?_; clear hK K
  cases hok : okI x with
  | false =>
    rw [hok, if_neg (by decide)] at hr
    suffices hrest : PW Tryz.prog _ _ [(29, .bool true)] (H ++ [⟨64, 0, itc x⟩]) _ by
      unfold okI at hok
      (repeat refine PW.seq ?_); refine PW.rg rfl fun K hK => ?_; simp (maxSteps := 3000000) (disch := omega) only [go_sem, ↓reduceIte, reduceCtorEq, pappend, plen, i3, i4]; (repeat' ((first | refine VO_cond (fun h => ?_) (fun h => ?_) | refine VOd_cond (fun h => ?_) (fun h => ?_) | refine VOg_cond (fun h => ?_) (fun h => ?_) | refine VOh_cond (fun h => ?_) (fun h => ?_) | refine VOi_cond (fun h => ?_) (fun h => ?_) | refine And.intro (fun h => ?_) (fun h => ?_)) <;> (try simp only [Bool.not_eq_true', Bool.not_eq_false', decide_eq_true_eq, decide_eq_false_iff_not] at h) <;> simp (maxSteps := 3000000) (disch := omega) only [go_sem, ↓reduceIte, reduceCtorEq, pappend, plen, i3, i4, h]))
      all_goals (refine hK _ _ ?_; clear hK K; refine PW.at [29] hrest ?_ rfl; simp [kp, slot, Nat.beq]; try (simp only [Bool.and_eq_false_iff, decide_eq_false_iff_not] at hok; omega))
    (repeat refine PW.seq ?_); refine PW.cond (t := _) rfl (fun h => ?_) (fun h => ?_)
    rotate_left
    · cases h
    (repeat refine PW.seq ?_); refine PW.rg rfl fun K hK => ?_; simp (maxSteps := 3000000) (disch := omega) only [go_sem, ↓reduceIte, reduceCtorEq, pappend, plen]; refine hK _ _ ?_; clear hK K
    refine PW.ret ⟨.tup [.slice [] 0 true, .int .i64 1], by simp (maxSteps := 3000000) (disch := omega) only [go_sem, ↓reduceIte, reduceCtorEq, pappend, plen, presults, presult, List.mapM_cons, List.mapM_nil, Option.pure_def, Option.bind_eq_bind, Option.bind_some, Array.toList], ?_⟩
    rw [← hr]
    exact fe 1 _ rfl
  | true =>
    rw [hok, if_pos rfl] at hr
    unfold okI at hok
    simp only [Bool.and_eq_true, decide_eq_true_eq] at hok
    obtain ⟨k1, k2, k3, k4⟩ := hok
    have d1 : decide (x.k < 1) = false := decide_eq_false (by omega)
    have d2 : decide (4 < x.k) = false := decide_eq_false (by omega)
    have d3 : decide (x.pad < 0) = false := decide_eq_false (by omega)
    have d4 : decide (1048576 < x.pad) = false := decide_eq_false (by omega)
    (repeat refine PW.seq ?_); refine PW.rg rfl fun K hK => ?_; simp (maxSteps := 3000000) (disch := omega) only [go_sem, ↓reduceIte, reduceCtorEq, pappend, plen, i3, i4, d1, d2, d3, d4]; refine hK _ _ ?_; clear hK K
    (repeat refine PW.seq ?_); refine PW.cond (t := _) rfl (fun h => ?_) (fun h => ?_)
    · cases h
    refine PW.skip ?_
    (repeat refine PW.seq ?_); refine PW.rg rfl fun K hK => ?_; simp (maxSteps := 3000000) (disch := omega) only [go_sem, ↓reduceIte, reduceCtorEq, pappend, plen]; refine hK _ _ ?_; clear hK K
    (repeat refine PW.seq ?_); refine PW.rg rfl fun K hK => ?_; simp (maxSteps := 3000000) (disch := omega) only [go_sem, ↓reduceIte, reduceCtorEq, pappend, plen, i3]; refine hK _ _ ?_; clear hK K
    suffices hrest : ∀ f, PW Tryz.prog _ _ [(1, .ptr H.length 0 0), (4, .ptr (H.length + 1) 0 0), (5, .int .i64 (hdU x).2.2)] (H ++ [⟨64, 0, itc x⟩, ⟨31, 0, [.int .i64 (hdU x).1, .slice (bs (hdU x).2.1) (hdU x).2.1.length f]⟩]) _ by
      have hk : x.k = 1 ∨ x.k = 2 ∨ x.k = 3 ∨ x.k = 4 := by omega
      rcases hk with hk | hk | hk | hk
      · have hu : hdU x = putS x.s := by unfold hdU; rw [if_pos hk]
        rw [hu] at hrest
        have po := fun K => puts_ref x.s K hs
        have e1 : (x.k == 1) = true := by simp [hk]
        (repeat refine PW.seq ?_); refine PW.block ?_
        (repeat refine PW.seq ?_); refine PW.rg rfl fun K hK => ?_; simp (maxSteps := 3000000) (disch := omega) only [go_sem, ↓reduceIte, reduceCtorEq, pappend, plen, e1]; refine hK _ _ ?_; clear hK K
        (repeat refine PW.seq ?_); refine PW.cond (t := _) rfl (fun h => ?_) (fun h => ?_)
        rotate_left
        · cases h
        (repeat refine PW.seq ?_); refine PW.rg rfl fun K hK => ?_; simp (maxSteps := 3000000) (disch := omega) only [go_sem, ↓reduceIte, reduceCtorEq, pappend, plen, i2, i5]; refine VCx.call (po _) rfl ?_; simp (maxSteps := 3000000) (disch := omega) only [go_sem, ↓reduceIte, reduceCtorEq, pappend, plen, uv]; refine hK _ _ ?_; clear hK K
        exact PW.at [1, 4, 5] (hrest false) rfl rfl
      · have hu : hdU x = putG x.gc x.gb x.gt := by unfold hdU; rw [if_neg (by omega), if_pos hk]
        rw [hu] at hrest
        have po := fun K => putg_ref x.gc x.gb x.gt K hx.ok.gt
        have e1 : (x.k == 1) = false := by simp [hk]
        have e2 : (x.k == 2) = true := by simp [hk]
        (repeat refine PW.seq ?_); refine PW.block ?_
        (repeat refine PW.seq ?_); refine PW.rg rfl fun K hK => ?_; simp (maxSteps := 3000000) (disch := omega) only [go_sem, ↓reduceIte, reduceCtorEq, pappend, plen, e1]; refine hK _ _ ?_; clear hK K
        (repeat refine PW.seq ?_); refine PW.cond (t := _) rfl (fun h => ?_) (fun h => ?_)
        · cases h
        (repeat refine PW.seq ?_); refine PW.rg rfl fun K hK => ?_; simp (maxSteps := 3000000) (disch := omega) only [go_sem, ↓reduceIte, reduceCtorEq, pappend, plen, e2]; refine hK _ _ ?_; clear hK K
        (repeat refine PW.seq ?_); refine PW.cond (t := _) rfl (fun h => ?_) (fun h => ?_)
        rotate_left
        · cases h
        (repeat refine PW.seq ?_); refine PW.rg rfl fun K hK => ?_; simp (maxSteps := 3000000) (disch := omega) only [go_sem, ↓reduceIte, reduceCtorEq, pappend, plen, i2, i6]; refine VCx.call (po _) rfl ?_; simp (maxSteps := 3000000) (disch := omega) only [go_sem, ↓reduceIte, reduceCtorEq, pappend, plen, uv]; refine hK _ _ ?_; clear hK K
        exact PW.at [1, 4, 5] (hrest false) rfl rfl
      · have hu : hdU x = putH x.p := by unfold hdU; rw [if_neg (by omega), if_neg (by omega), if_pos hk]
        rw [hu] at hrest
        have po := fun K => putH_ref x.p K
        have e1 : (x.k == 1) = false := by simp [hk]
        have e2 : (x.k == 2) = false := by simp [hk]
        have e3 : (x.k == 3) = true := by simp [hk]
        (repeat refine PW.seq ?_); refine PW.block ?_
        (repeat refine PW.seq ?_); refine PW.rg rfl fun K hK => ?_; simp (maxSteps := 3000000) (disch := omega) only [go_sem, ↓reduceIte, reduceCtorEq, pappend, plen, e1]; refine hK _ _ ?_; clear hK K
        (repeat refine PW.seq ?_); refine PW.cond (t := _) rfl (fun h => ?_) (fun h => ?_)
        · cases h
        (repeat refine PW.seq ?_); refine PW.rg rfl fun K hK => ?_; simp (maxSteps := 3000000) (disch := omega) only [go_sem, ↓reduceIte, reduceCtorEq, pappend, plen, e2]; refine hK _ _ ?_; clear hK K
        (repeat refine PW.seq ?_); refine PW.cond (t := _) rfl (fun h => ?_) (fun h => ?_)
        · cases h
        (repeat refine PW.seq ?_); refine PW.rg rfl fun K hK => ?_; simp (maxSteps := 3000000) (disch := omega) only [go_sem, ↓reduceIte, reduceCtorEq, pappend, plen, e3]; refine hK _ _ ?_; clear hK K
        (repeat refine PW.seq ?_); refine PW.cond (t := _) rfl (fun h => ?_) (fun h => ?_)
        rotate_left
        · cases h
        (repeat refine PW.seq ?_); refine PW.rg rfl fun K hK => ?_; simp (maxSteps := 3000000) (disch := omega) only [go_sem, ↓reduceIte, reduceCtorEq, pappend, plen, i2, i8]; refine VCx.call (po _) rfl ?_; simp (maxSteps := 3000000) (disch := omega) only [go_sem, ↓reduceIte, reduceCtorEq, pappend, plen, uv]; refine hK _ _ ?_; clear hK K
        exact PW.at [1, 4, 5] (hrest false) rfl rfl
      · have hu : hdU x = (183, [], 0) := by unfold hdU; rw [if_neg (by omega), if_neg (by omega), if_neg (by omega)]
        rw [hu] at hrest
        have e1 : (x.k == 1) = false := by simp [hk]
        have e2 : (x.k == 2) = false := by simp [hk]
        have e3 : (x.k == 3) = false := by simp [hk]
        (repeat refine PW.seq ?_); refine PW.block ?_
        (repeat refine PW.seq ?_); refine PW.rg rfl fun K hK => ?_; simp (maxSteps := 3000000) (disch := omega) only [go_sem, ↓reduceIte, reduceCtorEq, pappend, plen, e1]; refine hK _ _ ?_; clear hK K
        (repeat refine PW.seq ?_); refine PW.cond (t := _) rfl (fun h => ?_) (fun h => ?_)
        · cases h
        (repeat refine PW.seq ?_); refine PW.rg rfl fun K hK => ?_; simp (maxSteps := 3000000) (disch := omega) only [go_sem, ↓reduceIte, reduceCtorEq, pappend, plen, e2]; refine hK _ _ ?_; clear hK K
        (repeat refine PW.seq ?_); refine PW.cond (t := _) rfl (fun h => ?_) (fun h => ?_)
        · cases h
        (repeat refine PW.seq ?_); refine PW.rg rfl fun K hK => ?_; simp (maxSteps := 3000000) (disch := omega) only [go_sem, ↓reduceIte, reduceCtorEq, pappend, plen, e3]; refine hK _ _ ?_; clear hK K
        (repeat refine PW.seq ?_); refine PW.cond (t := _) rfl (fun h => ?_) (fun h => ?_)
        · cases h
        refine PW.skip ?_
        exact PW.at [1, 4, 5] (hrest true) rfl rfl
    intro f
    by_cases he : (hdU x).2.2 = 0
    rotate_left
    · rw [if_neg he] at hr
      have be : ((hdU x).2.2 != 0) = true := by simp [he]
      (repeat refine PW.seq ?_); refine PW.rg rfl fun K hK => ?_; simp (maxSteps := 3000000) (disch := omega) only [go_sem, ↓reduceIte, reduceCtorEq, pappend, plen, be]; refine hK _ _ ?_; clear hK K
      (repeat refine PW.seq ?_); refine PW.cond (t := _) rfl (fun h => ?_) (fun h => ?_)
      rotate_left
      · cases h
      (repeat refine PW.seq ?_); refine PW.rg rfl fun K hK => ?_; simp (maxSteps := 3000000) (disch := omega) only [go_sem, ↓reduceIte, reduceCtorEq, pappend, plen]; refine hK _ _ ?_; clear hK K
      refine PW.ret ⟨.tup [.slice [] 0 true, .int .i64 (hdU x).2.2], by simp (maxSteps := 3000000) (disch := omega) only [go_sem, ↓reduceIte, reduceCtorEq, pappend, plen, presults, presult, List.mapM_cons, List.mapM_nil, Option.pure_def, Option.bind_eq_bind, Option.bind_some, Array.toList], ?_⟩
      rw [← hr]
      exact fe _ _ rfl
    rw [if_pos he] at hr
    have be : ((hdU x).2.2 != 0) = false := by simp [he]
    (repeat refine PW.seq ?_); refine PW.rg rfl fun K hK => ?_; simp (maxSteps := 3000000) (disch := omega) only [go_sem, ↓reduceIte, reduceCtorEq, pappend, plen, be]; refine hK _ _ ?_; clear hK K
    (repeat refine PW.seq ?_); refine PW.cond (t := _) rfl (fun h => ?_) (fun h => ?_)
    · cases h
    refine PW.skip ?_
    generalize (hdU x).1 = ht at *
    generalize (hdU x).2.1 = hp at *
    (repeat refine PW.seq ?_)
    refine PW.view (Vs.place 31) ?_
    refine PW.eq rfl (show _ = H ++ [⟨64, 0, itc x⟩, ⟨31, 0, [.int .i64 ht, .slice (bs hp) hp.length f]⟩, ⟨31, 0, []⟩] from List.append_assoc _ _ _) ?_
    (repeat refine PW.seq ?_); refine PW.seqi [H.length + 2] [(62, 0)] rfl fun K hK => ?_
    simp (maxSteps := 3000000) (disch := omega) only [go_sem, ↓reduceIte, reduceCtorEq, pappend, plen]
    refine hK _ _ ?_; clear hK K
    have cutU : ∀ (n : Nat) (K : Heap), FzC n K [.int .i64 ht, .slice (bs hp) hp.length f] (uq [(ht, hp)]) := fun n K => by
      rw [uq_one]
      exact ⟨.id (.int _ _), Fz.sliceC (FzC.refl (bs_scoped _ _)) (fun e => by cases e), trivial⟩
    obtain ⟨X, hX⟩ : ∃ X, X = [PV.int .i64 ht, .slice (bs hp) hp.length f] := ⟨_, rfl⟩
    have hXs : ∀ n, ∀ y ∈ X, Scoped n y := fun n y hy => by
      rw [hX] at hy
      simp only [List.mem_cons, List.not_mem_nil, or_false] at hy
      rcases hy with rfl | rfl
      · exact .int _ _
      · exact sl_scoped (bs_scoped _ _)
    have uRsc : ∀ l v, HSc H → HSc (uR H x X l v) := fun l v h => hscW (fun b hb y hy => by
      simp only [List.mem_cons, List.not_mem_nil, or_false] at hb
      simp only [List.length_cons, List.length_nil]
      rcases hb with rfl | rfl | rfl
      · exact itc_sc _ _ y hy
      · exact hXs _ y hy
      · exact uq_sc _ _ y hy) h
    refine PW.keep [1, 6] ?_
    refine PW.view (Vs.cut (F1 := [(1, .ptr H.length 0 0), (6, .msl (H.length + 2) 1 0 1 2 true)]) (H1 := uR H x X [(ht, hp)] 1) (by show H.length ≤ _; rw [uR_l]; omega) (fun hA => ?_) ?_) ?_
    · have hL := CutH.of (A := H) (L := [⟨64, 0, itc x⟩, ⟨31, 0, X⟩, ⟨31, 1, [.int .i64 ht, .slice (bs hp) hp.length f]⟩]) (K := []) (L1 := [⟨64, 0, itc x⟩, ⟨31, 0, X⟩, ⟨31, 1, uq [(ht, hp)]⟩]) hA ⟨rfl, rfl, FzC.refl (itc_sc _ _), rfl, rfl, FzC.refl (hXs _), rfl, rfl, cutU _ _, trivial⟩
      rw [List.append_nil] at hL
      rw [hX] at hL ⊢
      exact hL
    · rw [uR_l]
      exact ⟨.id (.ptr (by omega)), .id (.msl (by omega)), trivial⟩
    by_cases hk : x.k = 3
    rotate_left
    · rw [if_neg hk] at hr
      have e3 : (x.k != 3) = true := by simp [hk]
      (repeat refine PW.seq ?_); refine PW.rg rfl fun K hK => ?_; simp (maxSteps := 3000000) (disch := omega) only [go_sem, ↓reduceIte, reduceCtorEq, pappend, plen, uR_0', i3, e3]; refine hK _ _ ?_; clear hK K
      (repeat refine PW.seq ?_); refine PW.cond (t := _) rfl (fun h => ?_) (fun h => ?_)
      rotate_left
      · cases h
      (repeat refine PW.seq ?_); refine PW.rg rfl fun K hK => ?_; simp (maxSteps := 3000000) (disch := omega) only [go_sem, ↓reduceIte, reduceCtorEq, pappend, plen]; refine hK _ _ ?_; clear hK K
      refine PW.ret ⟨.tup [.msl (H.length + 2) 1 0 1 2 true, .int .i64 0], by simp (maxSteps := 3000000) (disch := omega) only [go_sem, ↓reduceIte, reduceCtorEq, pappend, plen, presults, presult, List.mapM_cons, List.mapM_nil, Option.pure_def, Option.bind_eq_bind, Option.bind_some, Array.toList], ?_⟩
      rw [← hr]
      refine Fin.base (Fz.tupC ⟨?_, .id (.int _ _), trivial⟩)
      exact Fz.mslC (e := 31) (xs := uq [(ht, hp)]) (by omega) (hp2 _ _ _ _ _) (by rw [uq_len]; rfl) (uq_fzc _)
    rw [if_pos hk] at hr
    have e3 : (x.k != 3) = false := by simp [hk]
    (repeat refine PW.seq ?_); refine PW.rg rfl fun K hK => ?_; simp (maxSteps := 3000000) (disch := omega) only [go_sem, ↓reduceIte, reduceCtorEq, pappend, plen, uR_0', i3, e3]; refine hK _ _ ?_; clear hK K
    (repeat refine PW.seq ?_); refine PW.cond (t := _) rfl (fun h => ?_) (fun h => ?_)
    · cases h
    refine PW.skip ?_
    (repeat refine PW.seq ?_); refine PW.rg rfl fun K hK => ?_; simp (maxSteps := 3000000) (disch := omega) only [go_sem, ↓reduceIte, reduceCtorEq, pappend, plen]; refine hK _ _ ?_; clear hK K
    (repeat refine PW.seq ?_); refine PW.block (PW.loop ?_)
    suffices hl1 : ∀ (k v : Nat) (l : List Un), k ≤ x.U.length → v ≤ l.length * 2 → l.length ≤ 1 + k → unU [(ht, hp)] x.U = unU l (x.U.drop k) → PL Tryz.prog _ _ [(1, .ptr H.length 0 0), (6, .msl (H.length + 2) v 0 l.length 2 true), (7, .int .i64 (k : Int))] (uR H x X l v) _ by
      exact PL.at [1, 6, 7] (hl1 0 1 [(ht, hp)] (by omega) (by simp) (by simp) rfl) rfl rfl
    intro k v l hkU hv hll hf
    induction hd : x.U.length - k using Nat.strongRecOn generalizing k v l with
    | _ d ih =>
      have hUl := hx.U
      have ul := usr_l x.U
      refine PL.round ?_; (repeat refine PW.seq ?_); refine PW.rg rfl fun K hK => ?_; simp (maxSteps := 3000000) (disch := omega) only [go_sem, ↓reduceIte, reduceCtorEq, pappend, plen, uR_0', i9, usr]; refine hK _ _ ?_; clear hK K
      (repeat refine PW.seq ?_); refine PW.cond (t := _) rfl (fun h => ?_) (fun h => ?_)
      · have hkU : k < x.U.length := by have := of_decide_eq_true h; omega
        have ua := usr_at x.U k hkU
        have hnext := fun v l h1 h2 h3 => ih (x.U.length - (k + 1)) (by omega) (k + 1) v l (by omega) h1 h2 h3 rfl
        rw [List.drop_eq_getElem_cons hkU, unU] at hf
        generalize x.U[k] = u at *
        refine PW.skip ?_; (repeat refine PW.seq ?_); refine PW.block ?_
        by_cases h256 : 256 < u.length
        · rw [if_pos h256] at hf
          have d1 : decide ((256 : Int) < (u.length : Int)) = true := decide_eq_true (by omega)
          rw [hf, if_neg (by decide)] at hr
          (repeat refine PW.seq ?_); refine PW.rg rfl fun K hK => ?_; simp (maxSteps := 3000000) (disch := omega) only [go_sem, ↓reduceIte, reduceCtorEq, pappend, plen, uR_0', i9, usr, ua, ul, d1]; refine hK _ _ ?_; clear hK K
          (repeat refine PW.seq ?_); refine PW.cond (t := _) rfl (fun h => ?_) (fun h => ?_)
          rotate_left
          · cases h
          (repeat refine PW.seq ?_); refine PW.rg rfl fun K hK => ?_; simp (maxSteps := 3000000) (disch := omega) only [go_sem, ↓reduceIte, reduceCtorEq, pappend, plen]; refine hK _ _ ?_; clear hK K
          refine PW.ret ⟨.tup [.slice [] 0 true, .int .i64 5], by simp (maxSteps := 3000000) (disch := omega) only [go_sem, ↓reduceIte, reduceCtorEq, pappend, plen, presults, presult, List.mapM_cons, List.mapM_nil, Option.pure_def, Option.bind_eq_bind, Option.bind_some, Array.toList], ?_⟩
          rw [← hr]
          exact fe 5 _ rfl
        · rw [if_neg h256] at hf
          have d1 : decide ((256 : Int) < (u.length : Int)) = false := decide_eq_false (by omega)
          (repeat refine PW.seq ?_); refine PW.rg rfl fun K hK => ?_; simp (maxSteps := 3000000) (disch := omega) only [go_sem, ↓reduceIte, reduceCtorEq, pappend, plen, uR_0', i9, usr, ua, ul, d1]; refine hK _ _ ?_; clear hK K
          (repeat refine PW.seq ?_); refine PW.cond (t := _) rfl (fun h => ?_) (fun h => ?_)
          · cases h
          refine PW.skip ?_
          have bl := length_bs u
          have lq := uq_len l
          have tb : List.take u.length (bs u) = bs u := List.take_of_length_le (by omega)
          suffices hrest : PW Tryz.prog _ _ [(1, .ptr H.length 0 0), (6, .msl (H.length + 2) (l.length * 2 + (1 + 1)) 0 (l.length + 1) 2 true), (7, .int .i64 (k : Int))] (H ++ [⟨64, 0, itc x⟩, ⟨31, 0, X⟩, ⟨31, l.length * 2 + (1 + 1), uq l ++ [.int .i64 178, .msl (H.length + 3) (u.length + 1) 0 (u.length + 1) 1 true]⟩, ⟨5, u.length + 1, bs u ++ [.int .u8 128]⟩]) _ by
            by_cases hu0 : u.length = 0
            · have hun : u = [] := List.eq_nil_of_length_eq_zero hu0
              subst hun
              (repeat refine PW.seq ?_); refine PW.rg rfl fun K hK => ?_; simp (maxSteps := 3000000) (disch := omega) only [go_sem, ↓reduceIte, reduceCtorEq, pappend, plen, uR_0', uR_0, uR_2, uR_2', uR_s, uR_s', i9, usr, ua, ul, lq, uR_l, List.length_append]; refine hK _ _ ?_; clear hK K
              exact PW.at [1, 6, 7] hrest rfl rfl
            · (repeat refine PW.seq ?_); refine PW.rg rfl fun K hK => ?_; simp (maxSteps := 3000000) (disch := omega) only [go_sem, ↓reduceIte, reduceCtorEq, pappend, plen, uR_0', uR_0, uR_2, uR_2', uR_s, uR_s', uR_3, uR_s3, i9, usr, ua, ul, bl, tb, hu0, lq, uR_l, List.length_append]; refine hK _ _ ?_; clear hK K
              exact PW.at [1, 6, 7] hrest rfl rfl
          have hbu : bs (u ++ [128]) = bs u ++ [.int .u8 128] := by rw [bs_append]; rfl
          have hlu : (u ++ [128]).length = u.length + 1 := by simp
          refine PW.view (Vs.cut (F1 := [(1, .ptr H.length 0 0), (6, .msl (H.length + 2) (l.length * 2 + (1 + 1)) 0 (l ++ [(178, u ++ [128])]).length 2 true), (7, .int .i64 (k : Int))]) (H1 := uR H x X (l ++ [(178, u ++ [128])]) (l.length * 2 + (1 + 1))) (by show H.length ≤ _; rw [uR_l]; omega) (fun hA => ?_) ?_) ?_
          · have e4 : ∀ (a b c d : Blk), H ++ [a, b, c, d] = H ++ [a, b, c] ++ [d] := fun a b c d => by simp
            rw [e4]
            refine CutH.of (A := H) (L := [⟨64, 0, itc x⟩, ⟨31, 0, X⟩, ⟨31, l.length * 2 + (1 + 1), uq l ++ [.int .i64 178, .msl (H.length + 3) (u.length + 1) 0 (u.length + 1) 1 true]⟩]) (K := [⟨5, u.length + 1, bs u ++ [.int .u8 128]⟩]) (L1 := [⟨64, 0, itc x⟩, ⟨31, 0, X⟩, ⟨31, l.length * 2 + (1 + 1), uq (l ++ [(178, u ++ [128])])⟩]) hA ⟨rfl, rfl, FzC.refl (itc_sc _ _), rfl, rfl, FzC.refl (hXs _), rfl, rfl, ?_, trivial⟩
            rw [uq_app, uq_one]
            refine FzC.append (uq_fzc _) ⟨.id (.int _ _), ?_, trivial⟩
            rw [hlu, hbu]
            refine Fz.mslC (e := 5) (xs := bs u ++ [.int .u8 128]) (by simp) ?_ (by rw [List.length_append, bl, Nat.mul_one]; rfl) ?_
            · rw [List.append_assoc]; exact hp3 _ _ _ _ _ _
            · rw [← hbu]; exact FzC.refl (bs_scoped _ _)
          · rw [uR_l, List.length_append]
            exact ⟨.id (.ptr (by omega)), .id (.msl (by omega)), .id (.int _ _), trivial⟩
          (repeat refine PW.seq ?_); refine PW.rg rfl fun K hK => ?_; simp (maxSteps := 3000000) (disch := omega) only [go_sem, ↓reduceIte, reduceCtorEq, pappend, plen]; refine hK _ _ ?_; clear hK K
          exact PL.at [1, 6, 7] (hnext _ _ (by rw [List.length_append, List.length_singleton]; omega) (by rw [List.length_append, List.length_singleton]; omega) hf) rfl rfl
      · have hkU : k = x.U.length := by have := of_decide_eq_false h; omega
        rw [hkU, List.drop_length, unU] at hf
        rw [hf, if_pos rfl] at hr
        refine PW.exit ?_
        clear ih
        (repeat refine PW.seq ?_); refine PW.rg rfl fun K hK => ?_; simp (maxSteps := 3000000) (disch := omega) only [go_sem, ↓reduceIte, reduceCtorEq, pappend, plen]; refine hK _ _ ?_; clear hK K
        (repeat refine PW.seq ?_); refine PW.block (PW.loop ?_)
        have hll2 : l.length ≤ 10001 := by omega
        suffices hl2 : ∀ (j v : Nat) (l : List Un), j ≤ x.us.length → v ≤ l.length * 2 → l.length ≤ 10001 + j → r = unS l (x.us.drop j) → PL Tryz.prog _ _ [(1, .ptr H.length 0 0), (6, .msl (H.length + 2) v 0 l.length 2 true), (8, .int .i64 (j : Int))] (uR H x X l v) _ by
          exact PL.at [1, 6, 8] (hl2 0 v l (by omega) hv (by omega) hr.symm) rfl rfl
        clear hr hf hv hll hll2
        intro j v l hj hv hll hr
        have hus := hx.us
        have ql := uq_len x.us
        induction hd2 : x.us.length - j using Nat.strongRecOn generalizing j v l with
        | _ d2 ih2 =>
          refine PL.round ?_; (repeat refine PW.seq ?_); refine PW.rg rfl fun K hK => ?_; simp (maxSteps := 3000000) (disch := omega) only [go_sem, ↓reduceIte, reduceCtorEq, pappend, plen, uR_0', i10]; refine hK _ _ ?_; clear hK K
          (repeat refine PW.seq ?_); refine PW.cond (t := _) rfl (fun h => ?_) (fun h => ?_)
          · have hju : j < x.us.length := by have := of_decide_eq_true h; omega
            have u0 := uq_0 x.us j hju
            have u2 := uq_at x.us j hju
            have hl6 := hx.up x.us[j] (List.getElem_mem hju)
            have hnext := fun v l h1 h2 h3 => ih2 (x.us.length - (j + 1)) (by omega) (j + 1) v l (by omega) h1 h2 h3 rfl
            rw [List.drop_eq_getElem_cons hju, unS] at hr
            generalize x.us[j] = u at *
            unfold uq1 at u2
            refine PW.skip ?_; (repeat refine PW.seq ?_); refine PW.block ?_
            (repeat refine PW.seq ?_); refine PW.rg rfl fun K hK => ?_; simp (maxSteps := 3000000) (disch := omega) only [go_sem, ↓reduceIte, reduceCtorEq, pappend, plen, uR_0', i10, u0, ql]; refine hK _ _ ?_; clear hK K
            by_cases ht : 1 ≤ u.1 ∧ u.1 < 5
            rotate_left
            · rw [if_neg ht] at hr
              suffices hrest : PW Tryz.prog _ _ [(117, .bool true)] (uR H x X l v) _ by
                by_cases h1 : u.1 < 1
                · have d1 : decide (u.1 < 1) = true := decide_eq_true h1
                  (repeat refine PW.seq ?_); refine PW.rg rfl fun K hK => ?_; simp (maxSteps := 3000000) (disch := omega) only [go_sem, ↓reduceIte, reduceCtorEq, pappend, plen, d1]; refine hK _ _ ?_; clear hK K
                  exact PW.at [117] hrest rfl rfl
                · have d1 : decide (u.1 < 1) = false := decide_eq_false h1
                  have d5 : decide (5 ≤ u.1) = true := decide_eq_true (by omega)
                  (repeat refine PW.seq ?_); refine PW.rg rfl fun K hK => ?_; simp (maxSteps := 3000000) (disch := omega) only [go_sem, ↓reduceIte, reduceCtorEq, pappend, plen, d1, d5]; refine hK _ _ ?_; clear hK K
                  exact PW.at [117] hrest rfl rfl
              (repeat refine PW.seq ?_); refine PW.cond (t := _) rfl (fun h => ?_) (fun h => ?_)
              rotate_left
              · cases h
              (repeat refine PW.seq ?_); refine PW.rg rfl fun K hK => ?_; simp (maxSteps := 3000000) (disch := omega) only [go_sem, ↓reduceIte, reduceCtorEq, pappend, plen]; refine hK _ _ ?_; clear hK K
              refine PW.ret ⟨.tup [.slice [] 0 true, .int .i64 1], by simp (maxSteps := 3000000) (disch := omega) only [go_sem, ↓reduceIte, reduceCtorEq, pappend, plen, presults, presult, List.mapM_cons, List.mapM_nil, Option.pure_def, Option.bind_eq_bind, Option.bind_some, Array.toList], ?_⟩
              rw [hr]
              exact fe 1 _ rfl
            rw [if_pos ht] at hr
            have d1 : decide (u.1 < 1) = false := decide_eq_false (by omega)
            have d5 : decide (5 ≤ u.1) = false := decide_eq_false (by omega)
            (repeat refine PW.seq ?_); refine PW.rg rfl fun K hK => ?_; simp (maxSteps := 3000000) (disch := omega) only [go_sem, ↓reduceIte, reduceCtorEq, pappend, plen, d1, d5]; refine hK _ _ ?_; clear hK K
            (repeat refine PW.seq ?_); refine PW.cond (t := _) rfl (fun h => ?_) (fun h => ?_)
            · cases h
            refine PW.skip ?_
            have fm := fun K => format_ref u.1 u.2 false K hl6
            unfold bv at fm
            by_cases he0 : (fmtR u.1 u.2).2 = 0
            rotate_left
            · rw [if_neg he0] at hr
              have hb0 : ((fmtR u.1 u.2).2 != 0) = true := by simp [he0]
              generalize (fmtR u.1 u.2).2 = ee at *
              (repeat refine PW.seq ?_); refine PW.rg rfl fun K hK => ?_; simp (maxSteps := 3000000) (disch := omega) only [go_sem, ↓reduceIte, reduceCtorEq, pappend, plen, uR_0', i10, u2, ql]; refine VCx.call (fm _) rfl ?_; simp (maxSteps := 3000000) (disch := omega) only [go_sem, ↓reduceIte, reduceCtorEq, pappend, plen]; refine hK _ _ ?_; clear hK K
              (repeat refine PW.seq ?_); refine PW.rg rfl fun K hK => ?_; simp (maxSteps := 3000000) (disch := omega) only [go_sem, ↓reduceIte, reduceCtorEq, pappend, plen, hb0]; refine hK _ _ ?_; clear hK K
              (repeat refine PW.seq ?_); refine PW.cond (t := _) rfl (fun h => ?_) (fun h => ?_)
              rotate_left
              · cases h
              (repeat refine PW.seq ?_); refine PW.rg rfl fun K hK => ?_; simp (maxSteps := 3000000) (disch := omega) only [go_sem, ↓reduceIte, reduceCtorEq, pappend, plen]; refine hK _ _ ?_; clear hK K
              refine PW.ret ⟨.tup [.slice [] 0 true, .int .i64 ee], by simp (maxSteps := 3000000) (disch := omega) only [go_sem, ↓reduceIte, reduceCtorEq, pappend, plen, presults, presult, List.mapM_cons, List.mapM_nil, Option.pure_def, Option.bind_eq_bind, Option.bind_some, Array.toList], ?_⟩
              rw [hr]
              exact fe ee _ rfl
            rw [if_pos he0] at hr
            rw [he0] at fm
            (repeat refine PW.seq ?_); refine PW.rg rfl fun K hK => ?_; simp (maxSteps := 3000000) (disch := omega) only [go_sem, ↓reduceIte, reduceCtorEq, pappend, plen, uR_0', i10, u2, ql]; refine VCx.call (fm _) rfl ?_; simp (maxSteps := 3000000) (disch := omega) only [go_sem, ↓reduceIte, reduceCtorEq, pappend, plen]; refine hK _ _ ?_; clear hK K
            (repeat refine PW.seq ?_); refine PW.rg rfl fun K hK => ?_; simp (maxSteps := 3000000) (disch := omega) only [go_sem, ↓reduceIte, reduceCtorEq, pappend, plen]; refine hK _ _ ?_; clear hK K
            (repeat refine PW.seq ?_); refine PW.cond (t := _) rfl (fun h => ?_) (fun h => ?_)
            · cases h
            refine PW.skip ?_
            have lq := uq_len l
            (repeat refine PW.seq ?_); refine PW.rg rfl fun K hK => ?_; simp (maxSteps := 3000000) (disch := omega) only [go_sem, ↓reduceIte, reduceCtorEq, pappend, plen, uR_0', uR_2', uR_s', i10, u2, ql, lq, List.length_append]; refine hK _ _ ?_; clear hK K
            (repeat refine PW.seq ?_); refine PW.rg rfl fun K hK => ?_; simp (maxSteps := 3000000) (disch := omega) only [go_sem, ↓reduceIte, reduceCtorEq, pappend, plen]; refine hK _ _ ?_; clear hK K
            refine PL.at [1, 6, 8] (hnext (l.length * 2 + (1 + 1)) (l ++ [u]) (by rw [List.length_append, List.length_singleton]; omega) (by rw [List.length_append, List.length_singleton]; omega) hr) ?_ ?_
            · rw [List.length_append]; rfl
            · unfold uR
              rw [uq_app, uq_one]; rfl
          · have hju : j = x.us.length := by have := of_decide_eq_false h; omega
            rw [hju, List.drop_length, unS] at hr
            refine PW.exit ?_
            (repeat refine PW.seq ?_); refine PW.rg rfl fun K hK => ?_; simp (maxSteps := 3000000) (disch := omega) only [go_sem, ↓reduceIte, reduceCtorEq, pappend, plen]; refine hK _ _ ?_; clear hK K
            refine PW.ret ⟨.tup [.msl (H.length + 2) v 0 l.length 2 true, .int .i64 0], by simp (maxSteps := 3000000) (disch := omega) only [go_sem, ↓reduceIte, reduceCtorEq, pappend, plen, presults, presult, List.mapM_cons, List.mapM_nil, Option.pure_def, Option.bind_eq_bind, Option.bind_some, Array.toList], ?_⟩
            rw [hr]
            refine Fin.base (Fz.tupC ⟨?_, .id (.int _ _), trivial⟩)
            exact Fz.mslC (e := 31) (xs := uq l) (by omega) (hp2 _ _ _ _ _) (by rw [uq_len]) (uq_fzc _)

end Go.Proofs.YtnnkohejhnjflaaGreatDoor.Sc
