/-
  Parts of the proof, put together in one text. No condition.
-/
import Derived.Test.YtahomnplappbpaaGreatDoorW22
namespace Go.Proofs.YtahomnplappbpaaGreatDoor.Sc
set_option linter.all false
set_option linter.unusedVariables false
set_option linter.unusedSimpArgs false
open Pm Ty Go.RowKit

/-! ### the transform -/
def tmL : List Int := [8, 8, 8, 8, 8, 8, 8, 8, 12, 10, 6, 3, -3, -6, -10, -12, 8, 4, -4, -8, -8, -4, 4, 8, 10, -3, -12, -6, 6, 12, 3, -10, 8, -8, -8, 8, 8, -8, -8, 8, 6, -12, 3, 10, -10, -3, 12, -6, 4, -8, 8, -4, -4, 8, -8, 4, 3, -6, 10, -12, 12, -10, 6, -3]
def bas (i k : Nat) : Int := intAt tmL (8 * i + k)
def nrL : List Int := [512, 578, 320, 578, 512, 578, 320, 578]
def msL : List Int := [1445, 1280, 2312, 1280, 1445, 1280, 2312, 1280]
def tS (j l : Nat) : Int := bas j l * intAt msL j
theorem intAt_bd {l : List Int} {B : Int} (h0 : 0 ≤ B) (h : ∀ x ∈ l, -B ≤ x ∧ x ≤ B) (i : Nat) : -B ≤ intAt l i ∧ intAt l i ≤ B := by
  unfold intAt
  by_cases hi : i < l.length
  · rw [List.getD_eq_getElem?_getD, List.getElem?_eq_getElem hi]; exact h _ (List.getElem_mem hi)
  · rw [List.getD_eq_getElem?_getD, List.getElem?_eq_none (by omega)]; simp; omega
theorem bas_bd (i k : Nat) : -12 ≤ bas i k ∧ bas i k ≤ 12 := intAt_bd (by omega) (by decide) _
theorem ms_bd (i : Nat) : -2312 ≤ intAt msL i ∧ intAt msL i ≤ 2312 := intAt_bd (by omega) (by decide) _
theorem tS_bd (j l : Nat) : -27744 ≤ tS j l ∧ tS j l ≤ 27744 := mul_bd (bas_bd j l) (ms_bd j)
def cl21 (v : Int) : Int := max (-2097152) (min v 2097152)
theorem cl21_bd (v : Int) : -2097152 ≤ cl21 v ∧ cl21 v ≤ 2097152 := by unfold cl21; omega
/-- One term of a row, of a column. -/
def rtm (y : List Int) (i l j : Nat) : Int := tS j l * cl21 (intAt y (8 * i + j))
def rowI (y : List Int) (i l : Nat) : Int := sumN (rtm y i l) 8
theorem rtm_bd (y : List Int) (i l j : Nat) : -58183385088 ≤ rtm y i l j ∧ rtm y i l j ≤ 58183385088 := mul_bd (tS_bd j l) (cl21_bd _)
theorem rowI_bd (y : List Int) (i l : Nat) : -465467080704 ≤ rowI y i l ∧ rowI y i l ≤ 465467080704 := by
  have := sumN_bd (rtm_bd y i l) 8
  unfold rowI
  omega
def ctm (y : List Int) (k l i : Nat) : Int := tS i k * rowI y i l
theorem ctm_bd (y : List Int) (k l i : Nat) : -12913918687051776 ≤ ctm y k l i ∧ ctm y k l i ≤ 12913918687051776 := mul_bd (tS_bd i k) (rowI_bd _ _ _)
def colI (y : List Int) (k l : Nat) : Int := sumN (ctm y k l) 8
theorem colI_bd (y : List Int) (k l : Nat) : -103311349496414208 ≤ colI y k l ∧ colI y k l ≤ 103311349496414208 := by
  have := sumN_bd (ctm_bd y k l) 8
  unfold colI
  omega
def nst (s : Int) : Int := (2 * s + 547363225600) / 1094726451200
/-- The inverse transform. -/
def inv (y : List Int) : List Int := rgI 64 fun p => nst (colI y (p / 8) (p % 8))
theorem inv_bd (y : List Int) (k : Nat) : -200000 ≤ intAt (inv y) k ∧ intAt (inv y) k ≤ 200000 := by
  by_cases h : k < 64
  · rw [inv, rgI_at _ h]
    have := colI_bd y (k / 8) (k % 8)
    unfold nst
    omega
  · have hl : (inv y).length = 64 := rgI_len _ _
    unfold intAt
    rw [List.getD_eq_getElem?_getD, List.getElem?_eq_none (by omega)]
    simp
/-- Quotients that are rounded down. -/
theorem flr (a b : Int) (hb : 0 < b) : (if a.tmod b < 0 then a.tdiv b - 1 else a.tdiv b) = a / b := by
  have h1 := Int.tdiv_eq_ediv (a := a) (b := b)
  have h2 := Int.tmod_eq_emod (a := a) (b := b)
  have h3 := Int.emod_nonneg a (by omega : b ≠ 0)
  have h4 := Int.emod_lt_of_pos a hb
  have hs : b.sign = 1 := Int.sign_eq_one_of_pos hb
  have hn : (b.natAbs : Int) = b := by omega
  rw [h1, h2, hs]
  by_cases hc : 0 ≤ a ∨ b ∣ a
  · simp only [if_pos hc]; rw [if_neg (by omega)]; omega
  · simp only [if_neg hc]; rw [if_pos (by omega)]; omega

/-! ### scans and steps -/
def zzL : List Int := [0, 1, 8, 16, 9, 2, 3, 10, 17, 24, 32, 25, 18, 11, 4, 5, 12, 19, 26, 33, 40, 48, 41, 34, 27, 20, 13, 6, 7, 14, 21, 28, 35, 42, 49, 56, 57, 50, 43, 36, 29, 22, 15, 23, 30, 37, 44, 51, 58, 59, 52, 45, 38, 31, 39, 46, 53, 60, 61, 54, 47, 55, 62, 63]
def alL : List Int := [0, 8, 16, 24, 1, 9, 2, 10, 17, 25, 32, 40, 48, 56, 57, 49, 41, 33, 26, 18, 3, 11, 4, 12, 19, 27, 34, 42, 50, 58, 35, 43, 51, 59, 20, 28, 5, 13, 6, 14, 21, 29, 36, 44, 52, 60, 37, 45, 53, 61, 22, 30, 7, 15, 23, 31, 38, 46, 54, 62, 39, 47, 55, 63]
def sca (al : Bool) : List Int := if al then alL else zzL
theorem sca_len (al : Bool) : (sca al).length = 64 := by cases al <;> rfl
theorem sca_bd (al : Bool) (i : Nat) : 0 ≤ intAt (sca al) i ∧ intAt (sca al) i ≤ 63 := by
  have h : ∀ l : List Int, (∀ x ∈ l, 0 ≤ x ∧ x ≤ 63) → 0 ≤ intAt l i ∧ intAt l i ≤ 63 := fun l h => by
    unfold intAt
    by_cases hi : i < l.length
    · rw [List.getD_eq_getElem?_getD, List.getElem?_eq_getElem hi]; exact h _ (List.getElem_mem hi)
    · rw [List.getD_eq_getElem?_getD, List.getElem?_eq_none (by omega)]; simp
  cases al <;> exact h _ (by decide)
/-- Levels in the order of the elements, after n of them. -/
def frn (l s : List Int) : Nat → List Int
  | 0 => List.replicate 64 0
  | n + 1 => (frn l s n).set (intAt s n).toNat (intAt l n)
theorem frn_len (l s : List Int) : ∀ n, (frn l s n).length = 64
  | 0 => by simp [frn]
  | n + 1 => by rw [frn, List.length_set, frn_len l s n]
def frs (l : List Int) (al : Bool) : List Int := frn l (sca al) 64
theorem frn_mem {l s : List Int} {P : Int → Prop} (h0 : P 0) (h : ∀ i, P (intAt l i)) : ∀ n, ∀ x ∈ frn l s n, P x
  | 0 => fun x hx => by rw [(List.mem_replicate.1 hx).2]; exact h0
  | n + 1 => fun x hx => by
    rcases List.mem_or_eq_of_mem_set hx with h1 | h1
    · exact frn_mem h0 h n x h1
    · exact h1 ▸ h n
def gnL : List Int := [32, 34, 25, 34, 32, 34, 25, 34, 34, 36, 27, 36, 34, 36, 27, 36, 25, 27, 20, 27, 25, 27, 20, 27, 34, 36, 27, 36, 34, 36, 27, 36, 32, 34, 25, 34, 32, 34, 25, 34, 34, 36, 27, 36, 34, 36, 27, 36, 25, 27, 20, 27, 25, 27, 20, 27, 34, 36, 27, 36, 34, 36, 27, 36]
theorem gn_bd (k : Nat) : 0 ≤ intAt gnL k ∧ intAt gnL k ≤ 36 := by
  by_cases hi : k < 64
  · have : ∀ k, k < 64 → 0 ≤ intAt gnL k ∧ intAt gnL k ≤ 36 := by decide
    exact this k hi
  · unfold intAt; rw [List.getD_eq_getElem?_getD, List.getElem?_eq_none (by show 64 ≤ k; omega)]; simp
/-- The transformed block of levels. -/
def dqz (l : List Int) (m : List UInt8) (q : Int) : List Int := rgI 64 fun k => intAt l k * (byt m k * q * intAt gnL k)

/-! ### blocks of a macroblock -/
def bfr (n : Nat) (fd : Bool) : Nat := if 4 ≤ n then 0 else n % 2 * 8 + n / 2 * (if fd then 16 else 128)
def bst (n : Nat) (fd : Bool) : Nat := if 4 ≤ n then 8 else if fd then 32 else 16
def bps (n : Nat) (fd : Bool) (k : Nat) : Nat := bfr n fd + k / 8 * bst n fd + k % 8
def bln (n : Nat) : Nat := if 4 ≤ n then 64 else 256
theorem bfit {n : Nat} {fd : Bool} (hn : n < 6) : ∀ k, k < 8 → bfr n fd + k * bst n fd + 8 ≤ bln n := fun k hk => by
  have : n = 0 ∨ n = 1 ∨ n = 2 ∨ n = 3 ∨ n = 4 ∨ n = 5 := by omega
  unfold bfr bst bln
  rcases this with rfl | rfl | rfl | rfl | rfl | rfl <;> cases fd <;> simp <;> omega
theorem bps_lt {n : Nat} {fd : Bool} (hn : n < 6) {k : Nat} (hk : k < 64) : bps n fd k < bln n := by
  have := bfit (fd := fd) hn (k / 8) (by omega)
  unfold bps
  omega
theorem bps_inj {n : Nat} {fd : Bool} {k j : Nat} (h : bps n fd k = bps n fd j) : k = j := by
  unfold bps bfr bst at h
  by_cases hn : 4 ≤ n
  · simp only [if_pos hn] at h; omega
  · simp only [if_neg hn] at h
    cases fd
    · simp only [Bool.false_eq_true, if_false] at h; omega
    · simp only [if_true] at h; omega
def blk (p : List UInt8) (n : Nat) (fd : Bool) : List Int := rgI 64 fun k => byt p (bps n fd k)
def clp (v : Int) : Int := max 0 (min v 255)
theorem clp_bd (v : Int) : 0 ≤ clp v ∧ clp v ≤ 255 := by unfold clp; omega
def setb (p : List UInt8) (n : Nat) (fd : Bool) (x : List Int) : List UInt8 := pst p (bfr n fd) (bst n fd) 8 (rgB 64 fun k => clp (intAt x k)) 8
theorem setb_len {p : List UInt8} {n : Nat} {fd : Bool} {x : List Int} (hn : n < 6) (hp : p.length = bln n) : (setb p n fd x).length = p.length :=
  pst_len (m := 8) (by rw [rgB_len]) 8 (by omega) fun k hk => by rw [hp]; exact bfit hn k hk
/-- The samples written one after the other. -/
def sst (p : List UInt8) (n : Nat) (fd : Bool) (x : List Int) : Nat → List UInt8
  | 0 => p
  | m + 1 => (sst p n fd x m).set (bps n fd m) (u8 (clp (intAt x m)))
theorem sst_len (p : List UInt8) (n : Nat) (fd : Bool) (x : List Int) : ∀ m, (sst p n fd x m).length = p.length
  | 0 => rfl
  | m + 1 => by rw [sst, List.length_set, sst_len p n fd x m]
theorem sst_at {p : List UInt8} {n : Nat} {fd : Bool} {x : List Int} (hn : n < 6) (hp : p.length = bln n) : ∀ m, m ≤ 64 → (∀ k, k < m → byt (sst p n fd x m) (bps n fd k) = clp (intAt x k)) ∧ ∀ i, (∀ k, k < m → bps n fd k ≠ i) → byt (sst p n fd x m) i = byt p i
  | 0, _ => ⟨fun k hk => by omega, fun i _ => rfl⟩
  | m + 1, hm => by
    obtain ⟨ih1, ih2⟩ := sst_at (x := x) hn hp m (by omega)
    have hl : bps n fd m < (sst p n fd x m).length := by rw [sst_len, hp]; exact bps_lt hn (by omega)
    refine ⟨fun k hk => ?_, fun i hi => ?_⟩
    · rw [sst, byt_set _ _ _ _ hl]
      by_cases hkm : bps n fd k = bps n fd m
      · rw [if_pos hkm, bps_inj hkm, u8_val (clp_bd _)]
      · rw [if_neg hkm, ih1 k (by have : k ≠ m := fun e => hkm (by rw [e]); omega)]
    · rw [sst, byt_set _ _ _ _ hl, if_neg fun e => hi m (by omega) e.symm, ih2 i fun k hk => hi k (by omega)]
theorem sst_setb {p : List UInt8} {n : Nat} {fd : Bool} {x : List Int} (hn : n < 6) (hp : p.length = bln n) : sst p n fd x 64 = setb p n fd x := by
  have hz : (rgB 64 fun k => clp (intAt x k)).length = 8 * 8 := rgB_len _ _
  have hfit : ∀ k, k < 8 → bfr n fd + k * bst n fd + 8 ≤ p.length := fun k hk => by rw [hp]; exact bfit hn k hk
  have hws : 8 ≤ bst n fd := by unfold bst; split <;> (try split) <;> omega
  obtain ⟨h1, h2⟩ := sst_at (x := x) (fd := fd) hn hp 64 (by omega)
  apply byt_ext
  · rw [sst_len, setb_len hn hp]
  intro i _
  by_cases hi : ∃ k, k < 64 ∧ bps n fd k = i
  · obtain ⟨k, hk, rfl⟩ := hi
    rw [h1 k hk, setb, bps, pst_hit hz hws 8 (by omega) hfit (k / 8) (k % 8) (by omega) (by omega), show k / 8 * 8 + k % 8 = k by omega, rgB_at (fun k => clp (intAt x k)) hk (clp_bd _)]
  · have hm : ∀ k, k < 64 → bps n fd k ≠ i := fun k hk e => hi ⟨k, hk, e⟩
    rw [h2 i hm, setb, pst_miss hz 8 (by omega) hfit]
    intro j hj hc
    apply hm (8 * j + (i - (bfr n fd + j * bst n fd))) (by omega)
    unfold bps
    rw [show (8 * j + (i - (bfr n fd + j * bst n fd))) / 8 = j by omega]
    omega
theorem ctl_blk {p : List UInt8} {n : Nat} {fd : Bool} (hn : n < 6) (hp : p.length = bln n) {k : Nat} (hk : k < 64) : byt (ctl p (bfr n fd) (bst n fd) 8 8) k = intAt (blk p n fd) k := by
  have h := ctl_at p (bfr n fd) (bst n fd) 8 8 (fun k hk => by rw [hp]; exact bfit hn k hk) (k / 8) (k % 8) (by omega) (by omega)
  rw [show k / 8 * 8 + k % 8 = k by omega] at h
  rw [h, blk, rgI_at _ hk, bps]

end Go.Proofs.YtahomnplappbpaaGreatDoor.Sc

namespace Go.Proofs.YtahomnplappbpaaGreatDoor.Sc
set_option linter.all false
set_option linter.unusedVariables false
set_option linter.unusedSimpArgs false
open Pm Ty Go.RowKit

/-! ### prediction -/
def clm (i n : Int) : Int := max 0 (min i (n - 1))
def smp (p : List UInt8) (W R c r : Int) : Int := byt p (clm r R * W + clm c W).toNat
theorem smp_bd (p : List UInt8) (W R c r : Int) : 0 ≤ smp p W R c r ∧ smp p W R c r ≤ 255 := byt_range _ _
theorem clm_bd {i n : Int} (h : 1 ≤ n) : 0 ≤ clm i n ∧ clm i n ≤ n - 1 := by unfold clm; omega
/-- A predicted sample. -/
def pxl (p : List UInt8) (W R x y vx vy : Int) : Int :=
  (smp p W R (x + vx / 2) (y + vy / 2) + smp p W R (x + vx / 2 + vx % 2) (y + vy / 2) + smp p W R (x + vx / 2) (y + vy / 2 + vy % 2) + smp p W R (x + vx / 2 + vx % 2) (y + vy / 2 + vy % 2) + 2) / 4
theorem pxl_bd (p : List UInt8) (W R x y vx vy : Int) : 0 ≤ pxl p W R x y vx vy ∧ pxl p W R x y vx vy ≤ 255 := by
  have h1 := smp_bd p W R (x + vx / 2) (y + vy / 2)
  have h2 := smp_bd p W R (x + vx / 2 + vx % 2) (y + vy / 2)
  have h3 := smp_bd p W R (x + vx / 2) (y + vy / 2 + vy % 2)
  have h4 := smp_bd p W R (x + vx / 2 + vx % 2) (y + vy / 2 + vy % 2)
  unfold pxl
  omega
def prd (p : List UInt8) (W R x y : Int) (w h : Nat) (vx vy : Int) : List UInt8 := rgB (w * h) fun k => pxl p W R (x + ((k % w : Nat) : Int)) (y + ((k / w : Nat) : Int)) vx vy
theorem prd_len (p : List UInt8) (W R x y : Int) (w h : Nat) (vx vy : Int) : (prd p W R x y w h vx vy).length = w * h := rgB_len _ _
theorem prd_at (p : List UInt8) (W R x y : Int) (w h : Nat) (vx vy : Int) {k : Nat} (hk : k < w * h) : byt (prd p W R x y w h vx vy) k = pxl p W R (x + ((k % w : Nat) : Int)) (y + ((k / w : Nat) : Int)) vx vy := rgB_at (n := w * h) _ hk (pxl_bd _ _ _ _ _ _ _)

/-! ### rows by turns -/
def wov (a b : List UInt8) (w r : Nat) : List UInt8 := ((List.range r).map fun k => (a.drop (k * w)).take w ++ (b.drop (k * w)).take w).flatten
theorem wov_snoc (a b : List UInt8) (w r : Nat) : wov a b w (r + 1) = wov a b w r ++ ((a.drop (r * w)).take w ++ (b.drop (r * w)).take w) := by simp [wov, List.range_succ]
theorem wov_len {a b : List UInt8} {w m : Nat} (ha : a.length = m * w) (hb : b.length = m * w) : ∀ r, r ≤ m → (wov a b w r).length = r * (2 * w)
  | 0, _ => by simp [wov]
  | r + 1, hr => by
    rw [wov_snoc, List.length_append, wov_len ha hb r (by omega), List.length_append, row_len ha (show r < m by omega), row_len hb (show r < m by omega), Nat.succ_mul r (2 * w)]
    omega
theorem wov_at {a b : List UInt8} {w m : Nat} (ha : a.length = m * w) (hb : b.length = m * w) : ∀ r, r ≤ m → ∀ j c, j < r → c < w → byt (wov a b w r) (j * (2 * w) + c) = byt a (j * w + c) ∧ byt (wov a b w r) (j * (2 * w) + w + c) = byt b (j * w + c)
  | 0, _, j, c, hj, _ => by omega
  | r + 1, hr, j, c, hj, hc => by
    have hl := wov_len ha hb r (by omega)
    have l1 := row_len ha (show r < m by omega)
    have l2 := row_len hb (show r < m by omega)
    rw [wov_snoc]
    by_cases hjr : j = r
    · subst hjr
      refine ⟨?_, ?_⟩
      · rw [byt_app_r (by omega), hl, byt_app_l (by omega), byt_take (by omega), byt_drop]; congr 1; omega
      · rw [byt_app_r (by omega), hl, byt_app_r (by omega), byt_take (by omega), byt_drop, l1]; congr 1; omega
    · have h1 : (j + 1) * (2 * w) ≤ r * (2 * w) := Nat.mul_le_mul_right _ (by omega)
      rw [Nat.succ_mul] at h1
      obtain ⟨i1, i2⟩ := wov_at ha hb r (by omega) j c (by omega) hc
      rw [byt_app_l (by omega), byt_app_l (by omega)]
      exact ⟨i1, i2⟩
theorem pst_wov {a b z : List UInt8} {w m : Nat} (ha : a.length = m * w) (hb : b.length = m * w) (hz : z.length = m * (2 * w)) : pst (pst z 0 (2 * w) w a m) w (2 * w) w b m = wov a b w m := by
  have f0 : ∀ k, k < m → 0 + k * (2 * w) + w ≤ z.length := fun k hk => by
    have h1 : (k + 1) * (2 * w) ≤ m * (2 * w) := Nat.mul_le_mul_right _ (by omega)
    rw [Nat.succ_mul] at h1
    omega
  have l1 : (pst z 0 (2 * w) w a m).length = z.length := pst_len ha m (by omega) f0
  have f1 : ∀ k, k < m → w + k * (2 * w) + w ≤ (pst z 0 (2 * w) w a m).length := fun k hk => by
    have h1 : (k + 1) * (2 * w) ≤ m * (2 * w) := Nat.mul_le_mul_right _ (by omega)
    rw [Nat.succ_mul] at h1
    omega
  apply byt_ext
  · rw [pst_len hb m (by omega) f1, l1, hz, wov_len ha hb m (by omega)]
  intro i hi
  rw [pst_len hb m (by omega) f1, l1, hz] at hi
  have hw : 0 < w := by
    rcases Nat.eq_zero_or_pos w with h | h
    · subst h; simp at hi
    · exact h
  obtain ⟨j, e, he, rfl⟩ : ∃ j e, e < 2 * w ∧ i = j * (2 * w) + e := ⟨i / (2 * w), i % (2 * w), Nat.mod_lt _ (by omega), by rw [Nat.mul_comm]; exact (Nat.div_add_mod _ _).symm⟩
  have hj : j < m := by
    rcases Nat.lt_or_ge j m with h | h
    · exact h
    · have := Nat.mul_le_mul_right (2 * w) h; omega
  by_cases hew : e < w
  · rw [pst_miss hb m (by omega) f1, (wov_at ha hb m (by omega) j e hj hew).1]
    · have := pst_hit (p := z) (a := 0) (s := 2 * w) ha (by omega) m (by omega) f0 j e hj hew
      rw [Nat.zero_add] at this
      exact this
    · intro k hk hc
      rcases Nat.lt_or_ge k j with h | h
      · have h1 : (k + 1) * (2 * w) ≤ j * (2 * w) := Nat.mul_le_mul_right _ (by omega)
        rw [Nat.succ_mul] at h1
        omega
      · have h1 : j * (2 * w) ≤ k * (2 * w) := Nat.mul_le_mul_right _ (by omega)
        omega
  · obtain ⟨c, rfl⟩ : ∃ c, e = w + c := ⟨e - w, by omega⟩
    have h1 := (wov_at ha hb m (by omega) j c hj (by omega)).2
    have h2 := pst_hit (p := pst z 0 (2 * w) w a m) (a := w) (s := 2 * w) hb (by omega) m (by omega) f1 j c hj (by omega)
    rw [show j * (2 * w) + (w + c) = w + j * (2 * w) + c by omega, h2, ← h1]
    congr 1; omega

/-! ### means -/
def mnb (a b : List UInt8) : List UInt8 := rgB a.length fun i => (byt a i + byt b i + 1) / 2
theorem mnb_len (a b : List UInt8) : (mnb a b).length = a.length := rgB_len _ _
theorem mnb_at {a b : List UInt8} {i : Nat} (h : i < a.length) : byt (mnb a b) i = (byt a i + byt b i + 1) / 2 := by
  have h1 := byt_range a i
  have h2 := byt_range b i
  exact rgB_at _ h (by omega)

/-! ### planes that are close -/
def nr (D : Int) (p q : List UInt8) : Prop := p.length = q.length ∧ ∀ i, -D ≤ byt p i - byt q i ∧ byt p i - byt q i ≤ D
theorem nr.refl {D : Int} (h : 0 ≤ D) (p : List UInt8) : nr D p p := ⟨rfl, fun i => by omega⟩
theorem byt_out {p : List UInt8} {i : Nat} (h : p.length ≤ i) : byt p i = 0 := by
  simp [byt, List.getD_eq_getElem?_getD, List.getElem?_eq_none h]
theorem nr.mk' {D : Int} (hD : 0 ≤ D) {p q : List UInt8} (hl : p.length = q.length) (h : ∀ i, i < p.length → -D ≤ byt p i - byt q i ∧ byt p i - byt q i ≤ D) : nr D p q := ⟨hl, fun i => by
  by_cases hi : i < p.length
  · exact h i hi
  · rw [byt_out (by omega), byt_out (by omega)]; omega⟩
theorem nr.D0 {D : Int} {p q : List UInt8} (h : nr D p q) : 0 ≤ D := by have := h.2 0; omega
theorem nr.prd {D : Int} {p q : List UInt8} (h : nr D p q) (W R x y : Int) (w k : Nat) (vx vy : Int) : nr D (prd p W R x y w k vx vy) (prd q W R x y w k vx vy) :=
  nr.mk' h.D0 (by rw [prd_len, prd_len]) fun i hi => by
    rw [prd_len] at hi
    rw [prd_at _ _ _ _ _ _ _ _ _ hi, prd_at _ _ _ _ _ _ _ _ _ hi]
    have hs := fun c r : Int => h.2 (clm r R * W + clm c W).toNat
    have h1 := hs (x + ((i % w : Nat) : Int) + vx / 2) (y + ((i / w : Nat) : Int) + vy / 2)
    have h2 := hs (x + ((i % w : Nat) : Int) + vx / 2 + vx % 2) (y + ((i / w : Nat) : Int) + vy / 2)
    have h3 := hs (x + ((i % w : Nat) : Int) + vx / 2) (y + ((i / w : Nat) : Int) + vy / 2 + vy % 2)
    have h4 := hs (x + ((i % w : Nat) : Int) + vx / 2 + vx % 2) (y + ((i / w : Nat) : Int) + vy / 2 + vy % 2)
    simp only [pxl, smp]
    generalize byt p _ = a1 at *
    omega
theorem nr.mnb {D : Int} {p q p' q' : List UInt8} (h : nr D p q) (h' : nr D p' q') : nr D (mnb p p') (mnb q q') :=
  nr.mk' h.D0 (by rw [mnb_len, mnb_len, h.1]) fun i hi => by
    rw [mnb_len] at hi
    rw [mnb_at hi, mnb_at (by rw [← h.1]; exact hi)]
    have := h.2 i
    have := h'.2 i
    omega
theorem nr.ctl {D : Int} {p q : List UInt8} (h : nr D p q) {a s w r : Nat} (hf : ∀ k, k < r → a + k * s + w ≤ p.length) : nr D (ctl p a s w r) (ctl q a s w r) := by
  have hf' : ∀ k, k < r → a + k * s + w ≤ q.length := fun k hk => by rw [← h.1]; exact hf k hk
  refine nr.mk' h.D0 (by rw [ctl_len p a s w r hf, ctl_len q a s w r hf']) fun i hi => ?_
  rw [ctl_len p a s w r hf] at hi
  have hw : 0 < w := by
    rcases Nat.eq_zero_or_pos w with h | h
    · subst h; simp at hi
    · exact h
  obtain ⟨j, c, hc, rfl⟩ : ∃ j c, c < w ∧ i = j * w + c := ⟨i / w, i % w, Nat.mod_lt _ hw, by rw [Nat.mul_comm]; exact (Nat.div_add_mod _ _).symm⟩
  have hj : j < r := by
    rcases Nat.lt_or_ge j r with h | h
    · exact h
    · have := Nat.mul_le_mul_right w h; omega
  rw [ctl_at p a s w r hf j c hj hc, ctl_at q a s w r hf' j c hj hc]
  exact h.2 _
theorem nr.wov {D : Int} {a b a' b' : List UInt8} (h : nr D a a') (h' : nr D b b') {w m : Nat} (ha : a.length = m * w) (hb : b.length = m * w) : nr D (wov a b w m) (wov a' b' w m) := by
  have ha' : a'.length = m * w := by rw [← h.1, ha]
  have hb' : b'.length = m * w := by rw [← h'.1, hb]
  refine nr.mk' h.D0 (by rw [wov_len ha hb m (by omega), wov_len ha' hb' m (by omega)]) fun i hi => ?_
  rw [wov_len ha hb m (by omega)] at hi
  have hw : 0 < w := by
    rcases Nat.eq_zero_or_pos w with h | h
    · subst h; simp at hi
    · exact h
  obtain ⟨j, e, he, rfl⟩ : ∃ j e, e < 2 * w ∧ i = j * (2 * w) + e := ⟨i / (2 * w), i % (2 * w), Nat.mod_lt _ (by omega), by rw [Nat.mul_comm]; exact (Nat.div_add_mod _ _).symm⟩
  have hj : j < m := by
    rcases Nat.lt_or_ge j m with h | h
    · exact h
    · have := Nat.mul_le_mul_right (2 * w) h; omega
  by_cases hew : e < w
  · rw [(wov_at ha hb m (by omega) j e hj hew).1, (wov_at ha' hb' m (by omega) j e hj hew).1]
    exact h.2 _
  · obtain ⟨c, rfl⟩ : ∃ c, e = w + c := ⟨e - w, by omega⟩
    rw [← Nat.add_assoc, (wov_at ha hb m (by omega) j c hj (by omega)).2, (wov_at ha' hb' m (by omega) j c hj (by omega)).2]
    exact h'.2 _
theorem nr.sst {D : Int} {p q : List UInt8} {n : Nat} {fd : Bool} {x y : List Int} (h : nr D p q) (hn : n < 6) (hp : p.length = bln n) (hx : ∀ k, k < 64 → -D ≤ intAt x k - intAt y k ∧ intAt x k - intAt y k ≤ D) : ∀ m, m ≤ 64 → nr D (sst p n fd x m) (sst q n fd y m)
  | 0, _ => h
  | m + 1, hm => by
    have ih := nr.sst (fd := fd) h hn hp hx m (by omega)
    have l1 : bps n fd m < (Sc.sst p n fd x m).length := by rw [sst_len, hp]; exact bps_lt hn (by omega)
    have l2 : bps n fd m < (Sc.sst q n fd y m).length := by rw [← ih.1]; exact l1
    refine nr.mk' h.D0 (by rw [sst_len, sst_len, h.1]) fun i _ => ?_
    rw [Sc.sst, Sc.sst, byt_set _ _ _ _ l1, byt_set _ _ _ _ l2]
    by_cases hi : i = bps n fd m
    · rw [if_pos hi, if_pos hi, u8_val (clp_bd _), u8_val (clp_bd _)]
      have := hx m (by omega)
      have := h.D0
      unfold clp
      omega
    · rw [if_neg hi, if_neg hi]
      exact ih.2 i
/-- A block is added. -/
def cad (p : List UInt8) (n : Nat) (fd : Bool) (x : List Int) : List UInt8 := setb p n fd (rgI 64 fun k => intAt x k + intAt (blk p n fd) k)
theorem nr.cad {D : Int} {p q : List UInt8} {n : Nat} {fd : Bool} {x : List Int} (h : nr D p q) (hn : n < 6) (hp : p.length = bln n) : nr D (cad p n fd x) (cad q n fd x) := by
  unfold Sc.cad
  rw [← sst_setb hn hp, ← sst_setb hn (by rw [← h.1]; exact hp)]
  refine nr.sst h hn hp (fun k hk => ?_) 64 (by omega)
  rw [rgI_at _ hk, rgI_at _ hk, blk, blk, rgI_at _ hk, rgI_at _ hk]
  have := h.2 (bps n fd k)
  omega

end Go.Proofs.YtahomnplappbpaaGreatDoor.Sc
